/- Begin, the reference's sum, Wake of both. -/
import Derived.Test.YtbjmojajhkhekaaPsU
namespace Go.Proofs.Ytbjmojajhkhekaa
open Go.RowKit

theorem kn_span (at_ lo hi pp le re : Int) (h : knE at_ lo hi pp le re = 0) : spanOk lo hi := by
  by_cases g : spanOk lo hi
  · exact g
  · unfold knE at h; rw [if_neg g] at h; exact absurd h (by decide)
theorem kn_begin (at_ lo hi pp le re : Int) (h : knE at_ lo hi pp le re = 0) (a x y : Int) (ha : tickOk a) (hs : spanOk x y) : knE a x y pp 0 0 = 0 := by
  have g := kn_span at_ lo hi pp le re h
  have h2 : tickOk at_ ∧ 0 ≤ pp ∧ pp ≤ 1000000 ∧ cntOk le ∧ cntOk re := by
    by_cases g2 : tickOk at_ ∧ 0 ≤ pp ∧ pp ≤ 1000000 ∧ cntOk le ∧ cntOk re
    · exact g2
    · unfold knE at h; rw [if_pos g, if_neg g2] at h; exact absurd h (by decide)
  exact (if_pos hs).trans (if_pos ⟨ha, h2.2.1, h2.2.2.1, by decide, by decide⟩)
set_option maxRecDepth 100000 in
set_option maxHeartbeats 4000000 in
theorem begin_ok (a x y pp : Int) (w : World) (h : knE a x y pp 0 0 = 0) : Calls Try.prog 74 #[.int .i64 a, .agg #[.int .i64 x, .int .i64 y], .int .i64 pp] w fun e w' => e = .returned (.tuple #[.agg #[.int .i64 a, .int .i64 x, .int .i64 y, .int .i64 pp, .int .i64 0, .int .i64 0], .int .i64 0]) ∧ Below w.heap.size w w' := by
  have H := Lib.hid h
  clear h
  go_enter Try.func74, Try.ntmps74
  go_upto_region 1 with fail
  obtain ⟨x1, s_, h_, ex1, es_, eh_⟩ : ∃ x1 s_ h_, x1 = (w.alloc (.cells #[.int .i64 x, .int .i64 y] 37)).alloc (.cells #[.int .i64 0, .int .i64 0, .int .i64 0, .int .i64 0, .int .i64 0, .int .i64 0] 39) ∧ s_ = w.heap.size ∧ h_ = w.heap.size + 1 := ⟨_, _, _, rfl, rfl, rfl⟩
  rw [← ex1, ← eh_, ← es_]
  have hbx : Below w.heap.size w x1 := by rw [ex1]; exact below_alloc2 _ _ _ 
  have o_S_H : s_ < h_ := by omega
  have g_S : w.heap.size ≤ s_ := by rw [es_]; exact Nat.le_refl _
  have BS := Lib.hid (show Blk x1 s_ 37 #[.int .i64 x, .int .i64 y] by rw [ex1, es_]; exact blk_new2_0 _ _ _ _ _ )
  have BH := Lib.hid (show Blk x1 h_ 39 #[.int .i64 0, .int .i64 0, .int .i64 0, .int .i64 0, .int .i64 0, .int .i64 0] by rw [ex1, eh_]; exact blk_new2_1 _ _ _ _ _ )
  have R2 := Lib.hid hbx
  have hz_x1 := R2.out.size
  clear hbx ex1 es_ eh_
  have kS_0 : x1.cell? ⟨s_, 0, none⟩ = some (.int .i64 x) := BS.out.cell 0
  have kS_1 : x1.cell? ⟨s_, 1, none⟩ = some (.int .i64 y) := BS.out.cell 1
  go_upto_region 2 with fail
  clear kS_0 kS_1
  obtain ⟨x3, k_, ex3, ek_⟩ : ∃ x3 k_, x3 = x1.alloc (.cells #[.int .i64 a, .int .i64 x, .int .i64 y, .int .i64 pp, .int .i64 0, .int .i64 0] 39) ∧ k_ = x1.heap.size := ⟨_, _, rfl, rfl⟩
  rw [← ex3, ← ek_]
  have hbx : Below x1.heap.size x1 x3 := by rw [ex3]; exact below_alloc1 _ _ 
  have o_S_K : s_ < k_ := by rw [ek_]; exact BS.out.lt
  have o_H_K : h_ < k_ := by rw [ek_]; exact BH.out.lt
  have g_K : w.heap.size ≤ k_ := by rw [ek_]; exact hz_x1
  have BS := Lib.hid (BS.out.stays hbx)
  have BH := Lib.hid (BH.out.stays hbx)
  have BK := Lib.hid (show Blk x3 k_ 39 #[.int .i64 a, .int .i64 x, .int .i64 y, .int .i64 pp, .int .i64 0, .int .i64 0] by rw [ex3, ek_]; exact blk_new1_0 _ _ _ )
  have R4 := Lib.hid (R2.out.trans (hbx.mono hz_x1))
  have hz_x3 := R4.out.size
  clear hbx ex3 ek_ R2 hz_x1
  have kK_0 : x3.cell? ⟨k_, 0, none⟩ = some (.int .i64 a) := BK.out.cell 0
  have kK_1 : x3.cell? ⟨k_, 1, none⟩ = some (.int .i64 x) := BK.out.cell 1
  have kK_2 : x3.cell? ⟨k_, 2, none⟩ = some (.int .i64 y) := BK.out.cell 2
  have kK_3 : x3.cell? ⟨k_, 3, none⟩ = some (.int .i64 pp) := BK.out.cell 3
  have kK_4 : x3.cell? ⟨k_, 4, none⟩ = some (.int .i64 0) := BK.out.cell 4
  have kK_5 : x3.cell? ⟨k_, 5, none⟩ = some (.int .i64 0) := BK.out.cell 5
  go_wp2_with fail
  refine (certV a x y pp 0 0 _).mono ?_
  rintro e y5 ⟨rfl, hb⟩
  clear kK_0 kK_1 kK_2 kK_3 kK_4 kK_5
  have hbx : Below x3.heap.size x3 y5 := below_via (by go_grown) hb (by first | (simp; done) | (simp; omega))
  have BS := Lib.hid (BS.out.stays hbx)
  have BH := Lib.hid (BH.out.stays hbx)
  have BK := Lib.hid (BK.out.stays hbx)
  have R6 := Lib.hid (R4.out.trans (hbx.mono hz_x3))
  have hz_y5 := R6.out.size
  clear hb hbx  R4 hz_x3
  rw [H.out]
  have kK_0 : y5.cell? ⟨k_, 0, none⟩ = some (.int .i64 a) := BK.out.cell 0
  have kK_1 : y5.cell? ⟨k_, 1, none⟩ = some (.int .i64 x) := BK.out.cell 1
  have kK_2 : y5.cell? ⟨k_, 2, none⟩ = some (.int .i64 y) := BK.out.cell 2
  have kK_3 : y5.cell? ⟨k_, 3, none⟩ = some (.int .i64 pp) := BK.out.cell 3
  have kK_4 : y5.cell? ⟨k_, 4, none⟩ = some (.int .i64 0) := BK.out.cell 4
  have kK_5 : y5.cell? ⟨k_, 5, none⟩ = some (.int .i64 0) := BK.out.cell 5
  have cH := BH.out.cell
  have zH := BH.out.frozen
  have n1 : ¬ k_ = h_ := by omega
  have n2 : ¬ h_ = k_ := by omega
  go_wp2
  clear zH cH
  clear kK_0 kK_1 kK_2 kK_3 kK_4 kK_5
  generalize hwd : World.setCell _ ⟨h_, 5, none⟩ _ = wd
  have hwd2 : stores y5 h_ [.int .i64 a, .int .i64 x, .int .i64 y, .int .i64 pp, .int .i64 0, .int .i64 0] 0 = wd := hwd
  have D1 : Blk wd h_ 39 #[.int .i64 a, .int .i64 x, .int .i64 y, .int .i64 pp, .int .i64 0, .int .i64 0] := by rw [← hwd2]; exact BH.out.filled _ rfl
  have RD : Below w.heap.size w wd := by rw [← hwd2]; exact Below.stores (by omega) _ _ _ R6.out
  clear hwd hwd2
  have d1_0 : wd.cell? ⟨h_, 0, none⟩ = some (.int .i64 a) := D1.cell 0
  have d1_1 : wd.cell? ⟨h_, 1, none⟩ = some (.int .i64 x) := D1.cell 1
  have d1_2 : wd.cell? ⟨h_, 2, none⟩ = some (.int .i64 y) := D1.cell 2
  have d1_3 : wd.cell? ⟨h_, 3, none⟩ = some (.int .i64 pp) := D1.cell 3
  have d1_4 : wd.cell? ⟨h_, 4, none⟩ = some (.int .i64 0) := D1.cell 4
  have d1_5 : wd.cell? ⟨h_, 5, none⟩ = some (.int .i64 0) := D1.cell 5
  try go_wp2_with fail
  refine bodyPost_ret (v := .tuple #[.agg #[.int .i64 a, .int .i64 x, .int .i64 y, .int .i64 pp, .int .i64 0, .int .i64 0], .int .i64 0]) (by simp [results, Try.results74, go_sem, *]) rfl ⟨rfl, RD⟩
set_option maxRecDepth 100000 in
set_option maxHeartbeats 4000000 in
theorem smade_ok (x y : Int) (w : World) (h : spanOk x y) : Calls Try.prog 93 #[.int .i64 x, .int .i64 y] w fun e w' => e = .returned (.tuple #[.agg #[.int .i64 x, .int .i64 y], .int .i64 0]) ∧ Below w.heap.size w w' := by
  have dd : decide (spanOk x y) = true := decide_eq_true h
  clear h
  go_enter Try.func93, Try.ntmps93
  go_upto_region 1 with fail
  obtain ⟨x1, h_, ex1, eh_⟩ : ∃ x1 h_, x1 = w.alloc (.cells #[.int .i64 0, .int .i64 0] 37) ∧ h_ = w.heap.size := ⟨_, _, rfl, rfl⟩
  rw [← ex1, ← eh_]
  have hbx : Below w.heap.size w x1 := by rw [ex1]; exact below_alloc1 _ _ 
  have g_H : w.heap.size ≤ h_ := by rw [eh_]; exact Nat.le_refl _
  have BH := Lib.hid (show Blk x1 h_ 37 #[.int .i64 0, .int .i64 0] by rw [ex1, eh_]; exact blk_new1_0 _ _ _ )
  have R2 := Lib.hid hbx
  have hz_x1 := R2.out.size
  clear hbx ex1 eh_
  go_upto_region 2 with fail
  obtain ⟨x3, o_, ex3, eo_⟩ : ∃ x3 o_, x3 = x1.alloc (.cells #[.int .i64 x, .int .i64 y] 37) ∧ o_ = x1.heap.size := ⟨_, _, rfl, rfl⟩
  rw [← ex3, ← eo_]
  have hbx : Below x1.heap.size x1 x3 := by rw [ex3]; exact below_alloc1 _ _ 
  have o_H_O : h_ < o_ := by rw [eo_]; exact BH.out.lt
  have g_O : w.heap.size ≤ o_ := by rw [eo_]; exact hz_x1
  have BH := Lib.hid (BH.out.stays hbx)
  have BO := Lib.hid (show Blk x3 o_ 37 #[.int .i64 x, .int .i64 y] by rw [ex3, eo_]; exact blk_new1_0 _ _ _ )
  have R4 := Lib.hid (R2.out.trans (hbx.mono hz_x1))
  have hz_x3 := R4.out.size
  clear hbx ex3 eo_ R2 hz_x1
  have kO_0 : x3.cell? ⟨o_, 0, none⟩ = some (.int .i64 x) := BO.out.cell 0
  have kO_1 : x3.cell? ⟨o_, 1, none⟩ = some (.int .i64 y) := BO.out.cell 1
  go_wp2_with fail
  refine (refSpanV x y _).mono ?_
  rintro e y5 ⟨rfl, hb⟩
  clear kO_0 kO_1
  have hbx : Below x3.heap.size x3 y5 := below_via (by go_grown) hb (by first | (simp; done) | (simp; omega))
  have BH := Lib.hid (BH.out.stays hbx)
  have BO := Lib.hid (BO.out.stays hbx)
  have R6 := Lib.hid (R4.out.trans (hbx.mono hz_x3))
  have hz_y5 := R6.out.size
  clear hb hbx  R4 hz_x3
  rw [dd]
  have kO_0 : y5.cell? ⟨o_, 0, none⟩ = some (.int .i64 x) := BO.out.cell 0
  have kO_1 : y5.cell? ⟨o_, 1, none⟩ = some (.int .i64 y) := BO.out.cell 1
  have cH := BH.out.cell
  have zH := BH.out.frozen
  have n1 : ¬ o_ = h_ := by omega
  have n2 : ¬ h_ = o_ := by omega
  go_wp2
  clear zH cH
  clear kO_0 kO_1
  generalize hwd : World.setCell _ ⟨h_, 1, none⟩ _ = wd
  have hwd2 : stores y5 h_ [.int .i64 x, .int .i64 y] 0 = wd := hwd
  have D1 : Blk wd h_ 37 #[.int .i64 x, .int .i64 y] := by rw [← hwd2]; exact BH.out.filled _ rfl
  have RD : Below w.heap.size w wd := by rw [← hwd2]; exact Below.stores (by omega) _ _ _ R6.out
  clear hwd hwd2
  have d1_0 : wd.cell? ⟨h_, 0, none⟩ = some (.int .i64 x) := D1.cell 0
  have d1_1 : wd.cell? ⟨h_, 1, none⟩ = some (.int .i64 y) := D1.cell 1
  try go_wp2_with fail
  refine bodyPost_ret (v := .tuple #[.agg #[.int .i64 x, .int .i64 y], .int .i64 0]) (by simp [results, Try.results93, go_sem, *]) rfl ⟨rfl, RD⟩
set_option maxRecDepth 100000 in
set_option maxHeartbeats 4000000 in
theorem smade_bad (x y : Int) (w : World) (h : ¬ spanOk x y) : Calls Try.prog 93 #[.int .i64 x, .int .i64 y] w fun e w' => e = .returned (.tuple #[.agg #[.int .i64 0, .int .i64 0], .int .i64 4]) ∧ Below w.heap.size w w' := by
  have dd : decide (spanOk x y) = false := decide_eq_false h
  clear h
  go_enter Try.func93, Try.ntmps93
  go_upto_region 1 with fail
  obtain ⟨x1, h_, ex1, eh_⟩ : ∃ x1 h_, x1 = w.alloc (.cells #[.int .i64 0, .int .i64 0] 37) ∧ h_ = w.heap.size := ⟨_, _, rfl, rfl⟩
  rw [← ex1, ← eh_]
  have hbx : Below w.heap.size w x1 := by rw [ex1]; exact below_alloc1 _ _ 
  have g_H : w.heap.size ≤ h_ := by rw [eh_]; exact Nat.le_refl _
  have BH := Lib.hid (show Blk x1 h_ 37 #[.int .i64 0, .int .i64 0] by rw [ex1, eh_]; exact blk_new1_0 _ _ _ )
  have R2 := Lib.hid hbx
  have hz_x1 := R2.out.size
  clear hbx ex1 eh_
  go_upto_region 2 with fail
  obtain ⟨x3, o_, ex3, eo_⟩ : ∃ x3 o_, x3 = x1.alloc (.cells #[.int .i64 x, .int .i64 y] 37) ∧ o_ = x1.heap.size := ⟨_, _, rfl, rfl⟩
  rw [← ex3, ← eo_]
  have hbx : Below x1.heap.size x1 x3 := by rw [ex3]; exact below_alloc1 _ _ 
  have o_H_O : h_ < o_ := by rw [eo_]; exact BH.out.lt
  have g_O : w.heap.size ≤ o_ := by rw [eo_]; exact hz_x1
  have BH := Lib.hid (BH.out.stays hbx)
  have BO := Lib.hid (show Blk x3 o_ 37 #[.int .i64 x, .int .i64 y] by rw [ex3, eo_]; exact blk_new1_0 _ _ _ )
  have R4 := Lib.hid (R2.out.trans (hbx.mono hz_x1))
  have hz_x3 := R4.out.size
  clear hbx ex3 eo_ R2 hz_x1
  have kO_0 : x3.cell? ⟨o_, 0, none⟩ = some (.int .i64 x) := BO.out.cell 0
  have kO_1 : x3.cell? ⟨o_, 1, none⟩ = some (.int .i64 y) := BO.out.cell 1
  go_wp2_with fail
  refine (refSpanV x y _).mono ?_
  rintro e y5 ⟨rfl, hb⟩
  clear kO_0 kO_1
  have hbx : Below x3.heap.size x3 y5 := below_via (by go_grown) hb (by first | (simp; done) | (simp; omega))
  have BH := Lib.hid (BH.out.stays hbx)
  have BO := Lib.hid (BO.out.stays hbx)
  have R6 := Lib.hid (R4.out.trans (hbx.mono hz_x3))
  have hz_y5 := R6.out.size
  clear hb hbx  R4 hz_x3
  rw [dd]
  have kO_0 : y5.cell? ⟨o_, 0, none⟩ = some (.int .i64 x) := BO.out.cell 0
  have kO_1 : y5.cell? ⟨o_, 1, none⟩ = some (.int .i64 y) := BO.out.cell 1
  have cH := BH.out.cell
  have zH := BH.out.frozen
  have n1 : ¬ o_ = h_ := by omega
  have n2 : ¬ h_ = o_ := by omega
  go_wp2
  clear zH cH
  clear kO_0 kO_1
  generalize hwd : World.setCell _ ⟨h_, 1, none⟩ _ = wd
  have hwd2 : stores y5 h_ [.int .i64 0, .int .i64 0] 0 = wd := hwd
  have D1 : Blk wd h_ 37 #[.int .i64 0, .int .i64 0] := by rw [← hwd2]; exact BH.out.filled _ rfl
  have RD : Below w.heap.size w wd := by rw [← hwd2]; exact Below.stores (by omega) _ _ _ R6.out
  clear hwd hwd2
  have d1_0 : wd.cell? ⟨h_, 0, none⟩ = some (.int .i64 0) := D1.cell 0
  have d1_1 : wd.cell? ⟨h_, 1, none⟩ = some (.int .i64 0) := D1.cell 1
  try go_wp2_with fail
  refine bodyPost_ret (v := .tuple #[.agg #[.int .i64 0, .int .i64 0], .int .i64 4]) (by simp [results, Try.results93, go_sem, *]) rfl ⟨rfl, RD⟩
set_option maxRecDepth 100000 in
set_option maxHeartbeats 4000000 in
theorem refAdd_ok (a b c d : Int) (w : World) (h1 : spanOk a b) (h2 : spanOk c d) (h3 : spanOk (a + c) (b + d)) : Calls Try.prog 78 #[.agg #[.int .i64 a, .int .i64 b], .agg #[.int .i64 c, .int .i64 d]] w fun e w' => e = .returned (.tuple #[.agg #[.int .i64 (a + c), .int .i64 (b + d)], .int .i64 0]) ∧ Below w.heap.size w w' := by
  have e1 : decide (spanOk a b) = true := decide_eq_true h1
  have e2 : decide (spanOk c d) = true := decide_eq_true h2
  obtain ⟨x, hx⟩ : ∃ x, a + c = x := ⟨_, rfl⟩
  obtain ⟨y, hy⟩ : ∃ y, b + d = y := ⟨_, rfl⟩
  rw [hx, hy] at h3 ⊢
  have H3 := Lib.hid h3
  clear h3
  have a0 : -1152921504606846976 ≤ a ∧ a ≤ 1152921504606846976 := h1.1
  have b0 : -1152921504606846976 ≤ b ∧ b ≤ 1152921504606846976 := h1.2.1
  have c0 : -1152921504606846976 ≤ c ∧ c ≤ 1152921504606846976 := h2.1
  have d0 : -1152921504606846976 ≤ d ∧ d ≤ 1152921504606846976 := h2.2.1
  have wx : IntKind.i64.wrap x = x := IntWalk.i64_in _ (by omega)
  have wy : IntKind.i64.wrap y = y := IntWalk.i64_in _ (by omega)
  clear h1 h2
  obtain ⟨a1, a2⟩ := a0
  obtain ⟨b1, b2⟩ := b0
  obtain ⟨c1, c2⟩ := c0
  obtain ⟨d1, d2⟩ := d0
  go_enter Try.func78, Try.ntmps78
  go_upto_region 1 with fail
  obtain ⟨x1, s_, u_, h_, ex1, es_, eu_, eh_⟩ : ∃ x1 s_ u_ h_, x1 = ((w.alloc (.cells #[.int .i64 a, .int .i64 b] 37)).alloc (.cells #[.int .i64 c, .int .i64 d] 37)).alloc (.cells #[.int .i64 0, .int .i64 0] 37) ∧ s_ = w.heap.size ∧ u_ = w.heap.size + 1 ∧ h_ = w.heap.size + 1 + 1 := ⟨_, _, _, _, rfl, rfl, rfl, rfl⟩
  rw [← ex1, ← eh_, ← eu_, ← es_]
  have hbx : Below w.heap.size w x1 := by rw [ex1]; exact below_alloc3 _ _ _ _ 
  have o_S_U : s_ < u_ := by omega
  have o_U_H : u_ < h_ := by omega
  have g_S : w.heap.size ≤ s_ := by rw [es_]; exact Nat.le_refl _
  have BS := Lib.hid (show Blk x1 s_ 37 #[.int .i64 a, .int .i64 b] by rw [ex1, es_]; exact blk_new3_0 _ _ _ _ _ _ _ )
  have BU := Lib.hid (show Blk x1 u_ 37 #[.int .i64 c, .int .i64 d] by rw [ex1, eu_]; exact blk_new3_1 _ _ _ _ _ _ _ )
  have BH := Lib.hid (show Blk x1 h_ 37 #[.int .i64 0, .int .i64 0] by rw [ex1, eh_]; exact blk_new3_2 _ _ _ _ _ _ _ )
  have R2 := Lib.hid hbx
  have hz_x1 := R2.out.size
  clear hbx ex1 es_ eu_ eh_
  have kS_0 : x1.cell? ⟨s_, 0, none⟩ = some (.int .i64 a) := BS.out.cell 0
  have kS_1 : x1.cell? ⟨s_, 1, none⟩ = some (.int .i64 b) := BS.out.cell 1
  have kU_0 : x1.cell? ⟨u_, 0, none⟩ = some (.int .i64 c) := BU.out.cell 0
  have kU_1 : x1.cell? ⟨u_, 1, none⟩ = some (.int .i64 d) := BU.out.cell 1
  go_wp2_with fail
  refine (refSpanV a b _).mono ?_
  rintro e y3 ⟨rfl, hb⟩
  clear kS_0 kS_1 kU_0 kU_1
  have hbx : Below x1.heap.size x1 y3 := below_via (by go_grown) hb (by first | (simp; done) | (simp; omega))
  have BS := Lib.hid (BS.out.stays hbx)
  have BU := Lib.hid (BU.out.stays hbx)
  have BH := Lib.hid (BH.out.stays hbx)
  have R4 := Lib.hid (R2.out.trans (hbx.mono hz_x1))
  have hz_y3 := R4.out.size
  clear hb hbx  R2 hz_x1
  rw [e1]
  have kS_0 : y3.cell? ⟨s_, 0, none⟩ = some (.int .i64 a) := BS.out.cell 0
  have kS_1 : y3.cell? ⟨s_, 1, none⟩ = some (.int .i64 b) := BS.out.cell 1
  have kU_0 : y3.cell? ⟨u_, 0, none⟩ = some (.int .i64 c) := BU.out.cell 0
  have kU_1 : y3.cell? ⟨u_, 1, none⟩ = some (.int .i64 d) := BU.out.cell 1
  go_wp2_with fail
  refine (refSpanV c d _).mono ?_
  rintro e y5 ⟨rfl, hb⟩
  clear kS_0 kS_1 kU_0 kU_1
  have hbx : Below y3.heap.size y3 y5 := below_via (by go_grown) hb (by first | (simp; done) | (simp; omega))
  have BS := Lib.hid (BS.out.stays hbx)
  have BU := Lib.hid (BU.out.stays hbx)
  have BH := Lib.hid (BH.out.stays hbx)
  have R6 := Lib.hid (R4.out.trans (hbx.mono hz_y3))
  have hz_y5 := R6.out.size
  clear hb hbx  R4 hz_y3
  rw [e2]
  have kS_0 : y5.cell? ⟨s_, 0, none⟩ = some (.int .i64 a) := BS.out.cell 0
  have kS_1 : y5.cell? ⟨s_, 1, none⟩ = some (.int .i64 b) := BS.out.cell 1
  have kU_0 : y5.cell? ⟨u_, 0, none⟩ = some (.int .i64 c) := BU.out.cell 0
  have kU_1 : y5.cell? ⟨u_, 1, none⟩ = some (.int .i64 d) := BU.out.cell 1
  go_wp2_with fail
  refine (smade_ok x y _ H3.out).mono ?_
  rintro e y7 ⟨rfl, hb⟩
  clear kS_0 kS_1 kU_0 kU_1
  have hbx : Below y5.heap.size y5 y7 := below_via (by go_grown) hb (by first | (simp; done) | (simp; omega))
  have BS := Lib.hid (BS.out.stays hbx)
  have BU := Lib.hid (BU.out.stays hbx)
  have BH := Lib.hid (BH.out.stays hbx)
  have R8 := Lib.hid (R6.out.trans (hbx.mono hz_y5))
  have hz_y7 := R8.out.size
  clear hb hbx  R6 hz_y5
  have cH := BH.out.cell
  have zH := BH.out.frozen
  go_wp2
  clear zH cH
  generalize hwd : World.setCell _ ⟨h_, 1, none⟩ _ = wd
  have hwd2 : stores y7 h_ [.int .i64 x, .int .i64 y] 0 = wd := hwd
  have D1 : Blk wd h_ 37 #[.int .i64 x, .int .i64 y] := by rw [← hwd2]; exact BH.out.filled _ rfl
  have RD : Below w.heap.size w wd := by rw [← hwd2]; exact Below.stores (by omega) _ _ _ R8.out
  clear hwd hwd2
  have d1_0 : wd.cell? ⟨h_, 0, none⟩ = some (.int .i64 x) := D1.cell 0
  have d1_1 : wd.cell? ⟨h_, 1, none⟩ = some (.int .i64 y) := D1.cell 1
  try go_wp2_with fail
  refine bodyPost_ret (v := .tuple #[.agg #[.int .i64 x, .int .i64 y], .int .i64 0]) (by simp [results, Try.results78, go_sem, *]) rfl ⟨rfl, RD⟩
set_option maxRecDepth 100000 in
set_option maxHeartbeats 4000000 in
theorem refAdd_bad (a b c d : Int) (w : World) (h1 : spanOk a b) (h2 : spanOk c d) (h3 : ¬ spanOk (a + c) (b + d)) : Calls Try.prog 78 #[.agg #[.int .i64 a, .int .i64 b], .agg #[.int .i64 c, .int .i64 d]] w fun e w' => e = .returned (.tuple #[.agg #[.int .i64 0, .int .i64 0], .int .i64 4]) ∧ Below w.heap.size w w' := by
  have e1 : decide (spanOk a b) = true := decide_eq_true h1
  have e2 : decide (spanOk c d) = true := decide_eq_true h2
  obtain ⟨x, hx⟩ : ∃ x, a + c = x := ⟨_, rfl⟩
  obtain ⟨y, hy⟩ : ∃ y, b + d = y := ⟨_, rfl⟩
  rw [hx, hy] at h3
  have H3 := Lib.hid h3
  clear h3
  have a0 : -1152921504606846976 ≤ a ∧ a ≤ 1152921504606846976 := h1.1
  have b0 : -1152921504606846976 ≤ b ∧ b ≤ 1152921504606846976 := h1.2.1
  have c0 : -1152921504606846976 ≤ c ∧ c ≤ 1152921504606846976 := h2.1
  have d0 : -1152921504606846976 ≤ d ∧ d ≤ 1152921504606846976 := h2.2.1
  have wx : IntKind.i64.wrap x = x := IntWalk.i64_in _ (by omega)
  have wy : IntKind.i64.wrap y = y := IntWalk.i64_in _ (by omega)
  clear h1 h2
  obtain ⟨a1, a2⟩ := a0
  obtain ⟨b1, b2⟩ := b0
  obtain ⟨c1, c2⟩ := c0
  obtain ⟨d1, d2⟩ := d0
  go_enter Try.func78, Try.ntmps78
  go_upto_region 1 with fail
  obtain ⟨x1, s_, u_, h_, ex1, es_, eu_, eh_⟩ : ∃ x1 s_ u_ h_, x1 = ((w.alloc (.cells #[.int .i64 a, .int .i64 b] 37)).alloc (.cells #[.int .i64 c, .int .i64 d] 37)).alloc (.cells #[.int .i64 0, .int .i64 0] 37) ∧ s_ = w.heap.size ∧ u_ = w.heap.size + 1 ∧ h_ = w.heap.size + 1 + 1 := ⟨_, _, _, _, rfl, rfl, rfl, rfl⟩
  rw [← ex1, ← eh_, ← eu_, ← es_]
  have hbx : Below w.heap.size w x1 := by rw [ex1]; exact below_alloc3 _ _ _ _ 
  have o_S_U : s_ < u_ := by omega
  have o_U_H : u_ < h_ := by omega
  have g_S : w.heap.size ≤ s_ := by rw [es_]; exact Nat.le_refl _
  have BS := Lib.hid (show Blk x1 s_ 37 #[.int .i64 a, .int .i64 b] by rw [ex1, es_]; exact blk_new3_0 _ _ _ _ _ _ _ )
  have BU := Lib.hid (show Blk x1 u_ 37 #[.int .i64 c, .int .i64 d] by rw [ex1, eu_]; exact blk_new3_1 _ _ _ _ _ _ _ )
  have BH := Lib.hid (show Blk x1 h_ 37 #[.int .i64 0, .int .i64 0] by rw [ex1, eh_]; exact blk_new3_2 _ _ _ _ _ _ _ )
  have R2 := Lib.hid hbx
  have hz_x1 := R2.out.size
  clear hbx ex1 es_ eu_ eh_
  have kS_0 : x1.cell? ⟨s_, 0, none⟩ = some (.int .i64 a) := BS.out.cell 0
  have kS_1 : x1.cell? ⟨s_, 1, none⟩ = some (.int .i64 b) := BS.out.cell 1
  have kU_0 : x1.cell? ⟨u_, 0, none⟩ = some (.int .i64 c) := BU.out.cell 0
  have kU_1 : x1.cell? ⟨u_, 1, none⟩ = some (.int .i64 d) := BU.out.cell 1
  go_wp2_with fail
  refine (refSpanV a b _).mono ?_
  rintro e y3 ⟨rfl, hb⟩
  clear kS_0 kS_1 kU_0 kU_1
  have hbx : Below x1.heap.size x1 y3 := below_via (by go_grown) hb (by first | (simp; done) | (simp; omega))
  have BS := Lib.hid (BS.out.stays hbx)
  have BU := Lib.hid (BU.out.stays hbx)
  have BH := Lib.hid (BH.out.stays hbx)
  have R4 := Lib.hid (R2.out.trans (hbx.mono hz_x1))
  have hz_y3 := R4.out.size
  clear hb hbx  R2 hz_x1
  rw [e1]
  have kS_0 : y3.cell? ⟨s_, 0, none⟩ = some (.int .i64 a) := BS.out.cell 0
  have kS_1 : y3.cell? ⟨s_, 1, none⟩ = some (.int .i64 b) := BS.out.cell 1
  have kU_0 : y3.cell? ⟨u_, 0, none⟩ = some (.int .i64 c) := BU.out.cell 0
  have kU_1 : y3.cell? ⟨u_, 1, none⟩ = some (.int .i64 d) := BU.out.cell 1
  go_wp2_with fail
  refine (refSpanV c d _).mono ?_
  rintro e y5 ⟨rfl, hb⟩
  clear kS_0 kS_1 kU_0 kU_1
  have hbx : Below y3.heap.size y3 y5 := below_via (by go_grown) hb (by first | (simp; done) | (simp; omega))
  have BS := Lib.hid (BS.out.stays hbx)
  have BU := Lib.hid (BU.out.stays hbx)
  have BH := Lib.hid (BH.out.stays hbx)
  have R6 := Lib.hid (R4.out.trans (hbx.mono hz_y3))
  have hz_y5 := R6.out.size
  clear hb hbx  R4 hz_y3
  rw [e2]
  have kS_0 : y5.cell? ⟨s_, 0, none⟩ = some (.int .i64 a) := BS.out.cell 0
  have kS_1 : y5.cell? ⟨s_, 1, none⟩ = some (.int .i64 b) := BS.out.cell 1
  have kU_0 : y5.cell? ⟨u_, 0, none⟩ = some (.int .i64 c) := BU.out.cell 0
  have kU_1 : y5.cell? ⟨u_, 1, none⟩ = some (.int .i64 d) := BU.out.cell 1
  go_wp2_with fail
  refine (smade_bad x y _ H3.out).mono ?_
  rintro e y7 ⟨rfl, hb⟩
  clear kS_0 kS_1 kU_0 kU_1
  have hbx : Below y5.heap.size y5 y7 := below_via (by go_grown) hb (by first | (simp; done) | (simp; omega))
  have BS := Lib.hid (BS.out.stays hbx)
  have BU := Lib.hid (BU.out.stays hbx)
  have BH := Lib.hid (BH.out.stays hbx)
  have R8 := Lib.hid (R6.out.trans (hbx.mono hz_y5))
  have hz_y7 := R8.out.size
  clear hb hbx  R6 hz_y5
  have cH := BH.out.cell
  have zH := BH.out.frozen
  go_wp2
  clear zH cH
  generalize hwd : World.setCell _ ⟨h_, 1, none⟩ _ = wd
  have hwd2 : stores y7 h_ [.int .i64 0, .int .i64 0] 0 = wd := hwd
  have D1 : Blk wd h_ 37 #[.int .i64 0, .int .i64 0] := by rw [← hwd2]; exact BH.out.filled _ rfl
  have RD : Below w.heap.size w wd := by rw [← hwd2]; exact Below.stores (by omega) _ _ _ R8.out
  clear hwd hwd2
  have d1_0 : wd.cell? ⟨h_, 0, none⟩ = some (.int .i64 0) := D1.cell 0
  have d1_1 : wd.cell? ⟨h_, 1, none⟩ = some (.int .i64 0) := D1.cell 1
  try go_wp2_with fail
  refine bodyPost_ret (v := .tuple #[.agg #[.int .i64 0, .int .i64 0], .int .i64 4]) (by simp [results, Try.results78, go_sem, *]) rfl ⟨rfl, RD⟩
set_option maxRecDepth 100000 in
set_option maxHeartbeats 4000000 in
theorem wake_1 (cn at_ lo hi pp le re ol oh a : Int) (w : World) (h1 : ¬ knE at_ lo hi pp le re = 0) : Calls Try.prog 43 #[.agg #[.int .i64 cn, .int .i64 at_, .int .i64 lo, .int .i64 hi, .int .i64 pp, .int .i64 le, .int .i64 re], .agg #[.int .i64 ol, .int .i64 oh], .int .i64 a] w fun e w' => e = .returned (.tuple #[.agg #[.int .i64 0, .int .i64 0, .int .i64 0, .int .i64 0, .int .i64 0, .int .i64 0], .int .i64 (knE at_ lo hi pp le re)]) ∧ Below w.heap.size w w' := by
  obtain ⟨er, her⟩ : ∃ er, knE at_ lo hi pp le re = er := ⟨_, rfl⟩
  rw [her] at h1 ⊢
  have HE := Lib.hid her
  have hne : (er != 0) = true := by simpa using h1
  clear her h1
  go_enter Try.func43, Try.ntmps43
  go_upto_region 1 with fail
  obtain ⟨x1, s_, u_, h_, ex1, es_, eu_, eh_⟩ : ∃ x1 s_ u_ h_, x1 = ((w.alloc (.cells #[.int .i64 cn, .int .i64 at_, .int .i64 lo, .int .i64 hi, .int .i64 pp, .int .i64 le, .int .i64 re] 41)).alloc (.cells #[.int .i64 ol, .int .i64 oh] 37)).alloc (.cells #[.int .i64 0, .int .i64 0, .int .i64 0, .int .i64 0, .int .i64 0, .int .i64 0] 39) ∧ s_ = w.heap.size ∧ u_ = w.heap.size + 1 ∧ h_ = w.heap.size + 1 + 1 := ⟨_, _, _, _, rfl, rfl, rfl, rfl⟩
  rw [← ex1, ← eh_, ← eu_, ← es_]
  have hbx : Below w.heap.size w x1 := by rw [ex1]; exact below_alloc3 _ _ _ _ 
  have o_S_U : s_ < u_ := by omega
  have o_U_H : u_ < h_ := by omega
  have g_S : w.heap.size ≤ s_ := by rw [es_]; exact Nat.le_refl _
  have BS := Lib.hid (show Blk x1 s_ 41 #[.int .i64 cn, .int .i64 at_, .int .i64 lo, .int .i64 hi, .int .i64 pp, .int .i64 le, .int .i64 re] by rw [ex1, es_]; exact blk_new3_0 _ _ _ _ _ _ _ )
  have BU := Lib.hid (show Blk x1 u_ 37 #[.int .i64 ol, .int .i64 oh] by rw [ex1, eu_]; exact blk_new3_1 _ _ _ _ _ _ _ )
  have BH := Lib.hid (show Blk x1 h_ 39 #[.int .i64 0, .int .i64 0, .int .i64 0, .int .i64 0, .int .i64 0, .int .i64 0] by rw [ex1, eh_]; exact blk_new3_2 _ _ _ _ _ _ _ )
  have R2 := Lib.hid hbx
  have hz_x1 := R2.out.size
  clear hbx ex1 es_ eu_ eh_
  have kS_0 : x1.cell? ⟨s_, 0, none⟩ = some (.int .i64 cn) := BS.out.cell 0
  have kS_1 : x1.cell? ⟨s_, 1, none⟩ = some (.int .i64 at_) := BS.out.cell 1
  have kS_2 : x1.cell? ⟨s_, 2, none⟩ = some (.int .i64 lo) := BS.out.cell 2
  have kS_3 : x1.cell? ⟨s_, 3, none⟩ = some (.int .i64 hi) := BS.out.cell 3
  have kS_4 : x1.cell? ⟨s_, 4, none⟩ = some (.int .i64 pp) := BS.out.cell 4
  have kS_5 : x1.cell? ⟨s_, 5, none⟩ = some (.int .i64 le) := BS.out.cell 5
  have kS_6 : x1.cell? ⟨s_, 6, none⟩ = some (.int .i64 re) := BS.out.cell 6
  have kU_0 : x1.cell? ⟨u_, 0, none⟩ = some (.int .i64 ol) := BU.out.cell 0
  have kU_1 : x1.cell? ⟨u_, 1, none⟩ = some (.int .i64 oh) := BU.out.cell 1
  go_wp2_with fail
  refine (certV at_ lo hi pp le re _).mono ?_
  rintro e y3 ⟨rfl, hb⟩
  clear kS_0 kS_1 kS_2 kS_3 kS_4 kS_5 kS_6 kU_0 kU_1
  have hbx : Below x1.heap.size x1 y3 := below_via (by go_grown) hb (by first | (simp; done) | (simp; omega))
  have BS := Lib.hid (BS.out.stays hbx)
  have BU := Lib.hid (BU.out.stays hbx)
  have BH := Lib.hid (BH.out.stays hbx)
  have R4 := Lib.hid (R2.out.trans (hbx.mono hz_x1))
  have hz_y3 := R4.out.size
  clear hb hbx  R2 hz_x1
  rw [HE.out]
  have kS_0 : y3.cell? ⟨s_, 0, none⟩ = some (.int .i64 cn) := BS.out.cell 0
  have kS_1 : y3.cell? ⟨s_, 1, none⟩ = some (.int .i64 at_) := BS.out.cell 1
  have kS_2 : y3.cell? ⟨s_, 2, none⟩ = some (.int .i64 lo) := BS.out.cell 2
  have kS_3 : y3.cell? ⟨s_, 3, none⟩ = some (.int .i64 hi) := BS.out.cell 3
  have kS_4 : y3.cell? ⟨s_, 4, none⟩ = some (.int .i64 pp) := BS.out.cell 4
  have kS_5 : y3.cell? ⟨s_, 5, none⟩ = some (.int .i64 le) := BS.out.cell 5
  have kS_6 : y3.cell? ⟨s_, 6, none⟩ = some (.int .i64 re) := BS.out.cell 6
  have kU_0 : y3.cell? ⟨u_, 0, none⟩ = some (.int .i64 ol) := BU.out.cell 0
  have kU_1 : y3.cell? ⟨u_, 1, none⟩ = some (.int .i64 oh) := BU.out.cell 1
  have cH := BH.out.cell
  have zH := BH.out.frozen
  go_wp2
  clear zH cH
  clear kS_0 kS_1 kS_2 kS_3 kS_4 kS_5 kS_6 kU_0 kU_1
  generalize hwd : World.setCell _ ⟨h_, 5, none⟩ _ = wd
  have hwd2 : stores y3 h_ [.int .i64 0, .int .i64 0, .int .i64 0, .int .i64 0, .int .i64 0, .int .i64 0] 0 = wd := hwd
  have D1 : Blk wd h_ 39 #[.int .i64 0, .int .i64 0, .int .i64 0, .int .i64 0, .int .i64 0, .int .i64 0] := by rw [← hwd2]; exact BH.out.filled _ rfl
  have RD : Below w.heap.size w wd := by rw [← hwd2]; exact Below.stores (by omega) _ _ _ R4.out
  clear hwd hwd2
  have d1_0 : wd.cell? ⟨h_, 0, none⟩ = some (.int .i64 0) := D1.cell 0
  have d1_1 : wd.cell? ⟨h_, 1, none⟩ = some (.int .i64 0) := D1.cell 1
  have d1_2 : wd.cell? ⟨h_, 2, none⟩ = some (.int .i64 0) := D1.cell 2
  have d1_3 : wd.cell? ⟨h_, 3, none⟩ = some (.int .i64 0) := D1.cell 3
  have d1_4 : wd.cell? ⟨h_, 4, none⟩ = some (.int .i64 0) := D1.cell 4
  have d1_5 : wd.cell? ⟨h_, 5, none⟩ = some (.int .i64 0) := D1.cell 5
  try go_wp2_with fail
  refine bodyPost_ret (v := .tuple #[.agg #[.int .i64 0, .int .i64 0, .int .i64 0, .int .i64 0, .int .i64 0, .int .i64 0], .int .i64 er]) (by simp [results, Try.results43, go_sem, *]) rfl ⟨rfl, RD⟩
set_option maxRecDepth 100000 in
set_option maxHeartbeats 4000000 in
theorem wake_2 (cn at_ lo hi pp le re ol oh a : Int) (w : World) (h1 : knE at_ lo hi pp le re = 0) (h2 : ¬ spanOk ol oh) : Calls Try.prog 43 #[.agg #[.int .i64 cn, .int .i64 at_, .int .i64 lo, .int .i64 hi, .int .i64 pp, .int .i64 le, .int .i64 re], .agg #[.int .i64 ol, .int .i64 oh], .int .i64 a] w fun e w' => e = .returned (.tuple #[.agg #[.int .i64 0, .int .i64 0, .int .i64 0, .int .i64 0, .int .i64 0, .int .i64 0], .int .i64 3]) ∧ Below w.heap.size w w' := by
  have HE := Lib.hid h1
  have HS := Lib.hid (kn_span at_ lo hi pp le re h1)
  have HK := Lib.hid (kn_begin at_ lo hi pp le re h1)
  clear h1
  have d2 : decide (spanOk ol oh) = false := decide_eq_false h2
  clear h2
  go_enter Try.func43, Try.ntmps43
  go_upto_region 1 with fail
  obtain ⟨x1, s_, u_, h_, ex1, es_, eu_, eh_⟩ : ∃ x1 s_ u_ h_, x1 = ((w.alloc (.cells #[.int .i64 cn, .int .i64 at_, .int .i64 lo, .int .i64 hi, .int .i64 pp, .int .i64 le, .int .i64 re] 41)).alloc (.cells #[.int .i64 ol, .int .i64 oh] 37)).alloc (.cells #[.int .i64 0, .int .i64 0, .int .i64 0, .int .i64 0, .int .i64 0, .int .i64 0] 39) ∧ s_ = w.heap.size ∧ u_ = w.heap.size + 1 ∧ h_ = w.heap.size + 1 + 1 := ⟨_, _, _, _, rfl, rfl, rfl, rfl⟩
  rw [← ex1, ← eh_, ← eu_, ← es_]
  have hbx : Below w.heap.size w x1 := by rw [ex1]; exact below_alloc3 _ _ _ _ 
  have o_S_U : s_ < u_ := by omega
  have o_U_H : u_ < h_ := by omega
  have g_S : w.heap.size ≤ s_ := by rw [es_]; exact Nat.le_refl _
  have BS := Lib.hid (show Blk x1 s_ 41 #[.int .i64 cn, .int .i64 at_, .int .i64 lo, .int .i64 hi, .int .i64 pp, .int .i64 le, .int .i64 re] by rw [ex1, es_]; exact blk_new3_0 _ _ _ _ _ _ _ )
  have BU := Lib.hid (show Blk x1 u_ 37 #[.int .i64 ol, .int .i64 oh] by rw [ex1, eu_]; exact blk_new3_1 _ _ _ _ _ _ _ )
  have BH := Lib.hid (show Blk x1 h_ 39 #[.int .i64 0, .int .i64 0, .int .i64 0, .int .i64 0, .int .i64 0, .int .i64 0] by rw [ex1, eh_]; exact blk_new3_2 _ _ _ _ _ _ _ )
  have R2 := Lib.hid hbx
  have hz_x1 := R2.out.size
  clear hbx ex1 es_ eu_ eh_
  have kS_0 : x1.cell? ⟨s_, 0, none⟩ = some (.int .i64 cn) := BS.out.cell 0
  have kS_1 : x1.cell? ⟨s_, 1, none⟩ = some (.int .i64 at_) := BS.out.cell 1
  have kS_2 : x1.cell? ⟨s_, 2, none⟩ = some (.int .i64 lo) := BS.out.cell 2
  have kS_3 : x1.cell? ⟨s_, 3, none⟩ = some (.int .i64 hi) := BS.out.cell 3
  have kS_4 : x1.cell? ⟨s_, 4, none⟩ = some (.int .i64 pp) := BS.out.cell 4
  have kS_5 : x1.cell? ⟨s_, 5, none⟩ = some (.int .i64 le) := BS.out.cell 5
  have kS_6 : x1.cell? ⟨s_, 6, none⟩ = some (.int .i64 re) := BS.out.cell 6
  have kU_0 : x1.cell? ⟨u_, 0, none⟩ = some (.int .i64 ol) := BU.out.cell 0
  have kU_1 : x1.cell? ⟨u_, 1, none⟩ = some (.int .i64 oh) := BU.out.cell 1
  go_wp2_with fail
  refine (certV at_ lo hi pp le re _).mono ?_
  rintro e y3 ⟨rfl, hb⟩
  clear kS_0 kS_1 kS_2 kS_3 kS_4 kS_5 kS_6 kU_0 kU_1
  have hbx : Below x1.heap.size x1 y3 := below_via (by go_grown) hb (by first | (simp; done) | (simp; omega))
  have BS := Lib.hid (BS.out.stays hbx)
  have BU := Lib.hid (BU.out.stays hbx)
  have BH := Lib.hid (BH.out.stays hbx)
  have R4 := Lib.hid (R2.out.trans (hbx.mono hz_x1))
  have hz_y3 := R4.out.size
  clear hb hbx  R2 hz_x1
  rw [HE.out]
  have kS_0 : y3.cell? ⟨s_, 0, none⟩ = some (.int .i64 cn) := BS.out.cell 0
  have kS_1 : y3.cell? ⟨s_, 1, none⟩ = some (.int .i64 at_) := BS.out.cell 1
  have kS_2 : y3.cell? ⟨s_, 2, none⟩ = some (.int .i64 lo) := BS.out.cell 2
  have kS_3 : y3.cell? ⟨s_, 3, none⟩ = some (.int .i64 hi) := BS.out.cell 3
  have kS_4 : y3.cell? ⟨s_, 4, none⟩ = some (.int .i64 pp) := BS.out.cell 4
  have kS_5 : y3.cell? ⟨s_, 5, none⟩ = some (.int .i64 le) := BS.out.cell 5
  have kS_6 : y3.cell? ⟨s_, 6, none⟩ = some (.int .i64 re) := BS.out.cell 6
  have kU_0 : y3.cell? ⟨u_, 0, none⟩ = some (.int .i64 ol) := BU.out.cell 0
  have kU_1 : y3.cell? ⟨u_, 1, none⟩ = some (.int .i64 oh) := BU.out.cell 1
  go_wp2_with fail
  refine (intervalV ol oh _).mono ?_
  rintro e y5 ⟨rfl, hb⟩
  clear kS_0 kS_1 kS_2 kS_3 kS_4 kS_5 kS_6 kU_0 kU_1
  have hbx : Below y3.heap.size y3 y5 := below_via (by go_grown) hb (by first | (simp; done) | (simp; omega))
  have BS := Lib.hid (BS.out.stays hbx)
  have BU := Lib.hid (BU.out.stays hbx)
  have BH := Lib.hid (BH.out.stays hbx)
  have R6 := Lib.hid (R4.out.trans (hbx.mono hz_y3))
  have hz_y5 := R6.out.size
  clear hb hbx  R4 hz_y3
  rw [d2]
  have kS_0 : y5.cell? ⟨s_, 0, none⟩ = some (.int .i64 cn) := BS.out.cell 0
  have kS_1 : y5.cell? ⟨s_, 1, none⟩ = some (.int .i64 at_) := BS.out.cell 1
  have kS_2 : y5.cell? ⟨s_, 2, none⟩ = some (.int .i64 lo) := BS.out.cell 2
  have kS_3 : y5.cell? ⟨s_, 3, none⟩ = some (.int .i64 hi) := BS.out.cell 3
  have kS_4 : y5.cell? ⟨s_, 4, none⟩ = some (.int .i64 pp) := BS.out.cell 4
  have kS_5 : y5.cell? ⟨s_, 5, none⟩ = some (.int .i64 le) := BS.out.cell 5
  have kS_6 : y5.cell? ⟨s_, 6, none⟩ = some (.int .i64 re) := BS.out.cell 6
  have kU_0 : y5.cell? ⟨u_, 0, none⟩ = some (.int .i64 ol) := BU.out.cell 0
  have kU_1 : y5.cell? ⟨u_, 1, none⟩ = some (.int .i64 oh) := BU.out.cell 1
  have cH := BH.out.cell
  have zH := BH.out.frozen
  go_wp2
  clear zH cH
  clear kS_0 kS_1 kS_2 kS_3 kS_4 kS_5 kS_6 kU_0 kU_1
  generalize hwd : World.setCell _ ⟨h_, 5, none⟩ _ = wd
  have hwd2 : stores y5 h_ [.int .i64 0, .int .i64 0, .int .i64 0, .int .i64 0, .int .i64 0, .int .i64 0] 0 = wd := hwd
  have D1 : Blk wd h_ 39 #[.int .i64 0, .int .i64 0, .int .i64 0, .int .i64 0, .int .i64 0, .int .i64 0] := by rw [← hwd2]; exact BH.out.filled _ rfl
  have RD : Below w.heap.size w wd := by rw [← hwd2]; exact Below.stores (by omega) _ _ _ R6.out
  clear hwd hwd2
  have d1_0 : wd.cell? ⟨h_, 0, none⟩ = some (.int .i64 0) := D1.cell 0
  have d1_1 : wd.cell? ⟨h_, 1, none⟩ = some (.int .i64 0) := D1.cell 1
  have d1_2 : wd.cell? ⟨h_, 2, none⟩ = some (.int .i64 0) := D1.cell 2
  have d1_3 : wd.cell? ⟨h_, 3, none⟩ = some (.int .i64 0) := D1.cell 3
  have d1_4 : wd.cell? ⟨h_, 4, none⟩ = some (.int .i64 0) := D1.cell 4
  have d1_5 : wd.cell? ⟨h_, 5, none⟩ = some (.int .i64 0) := D1.cell 5
  try go_wp2_with fail
  refine bodyPost_ret (v := .tuple #[.agg #[.int .i64 0, .int .i64 0, .int .i64 0, .int .i64 0, .int .i64 0, .int .i64 0], .int .i64 3]) (by simp [results, Try.results43, go_sem, *]) rfl ⟨rfl, RD⟩
set_option maxRecDepth 100000 in
set_option maxHeartbeats 4000000 in
theorem wake_3 (cn at_ lo hi pp le re ol oh a : Int) (w : World) (h1 : knE at_ lo hi pp le re = 0) (h2 : spanOk ol oh) (h3 : ¬ 0 ≤ ol) : Calls Try.prog 43 #[.agg #[.int .i64 cn, .int .i64 at_, .int .i64 lo, .int .i64 hi, .int .i64 pp, .int .i64 le, .int .i64 re], .agg #[.int .i64 ol, .int .i64 oh], .int .i64 a] w fun e w' => e = .returned (.tuple #[.agg #[.int .i64 0, .int .i64 0, .int .i64 0, .int .i64 0, .int .i64 0, .int .i64 0], .int .i64 4]) ∧ Below w.heap.size w w' := by
  have HE := Lib.hid h1
  have HS := Lib.hid (kn_span at_ lo hi pp le re h1)
  have HK := Lib.hid (kn_begin at_ lo hi pp le re h1)
  clear h1
  have d2 : decide (spanOk ol oh) = true := decide_eq_true h2
  have H2 := Lib.hid h2
  clear h2
  have d3 : ol < 0 := by omega
  clear h3
  go_enter Try.func43, Try.ntmps43
  go_upto_region 1 with fail
  obtain ⟨x1, s_, u_, h_, ex1, es_, eu_, eh_⟩ : ∃ x1 s_ u_ h_, x1 = ((w.alloc (.cells #[.int .i64 cn, .int .i64 at_, .int .i64 lo, .int .i64 hi, .int .i64 pp, .int .i64 le, .int .i64 re] 41)).alloc (.cells #[.int .i64 ol, .int .i64 oh] 37)).alloc (.cells #[.int .i64 0, .int .i64 0, .int .i64 0, .int .i64 0, .int .i64 0, .int .i64 0] 39) ∧ s_ = w.heap.size ∧ u_ = w.heap.size + 1 ∧ h_ = w.heap.size + 1 + 1 := ⟨_, _, _, _, rfl, rfl, rfl, rfl⟩
  rw [← ex1, ← eh_, ← eu_, ← es_]
  have hbx : Below w.heap.size w x1 := by rw [ex1]; exact below_alloc3 _ _ _ _ 
  have o_S_U : s_ < u_ := by omega
  have o_U_H : u_ < h_ := by omega
  have g_S : w.heap.size ≤ s_ := by rw [es_]; exact Nat.le_refl _
  have BS := Lib.hid (show Blk x1 s_ 41 #[.int .i64 cn, .int .i64 at_, .int .i64 lo, .int .i64 hi, .int .i64 pp, .int .i64 le, .int .i64 re] by rw [ex1, es_]; exact blk_new3_0 _ _ _ _ _ _ _ )
  have BU := Lib.hid (show Blk x1 u_ 37 #[.int .i64 ol, .int .i64 oh] by rw [ex1, eu_]; exact blk_new3_1 _ _ _ _ _ _ _ )
  have BH := Lib.hid (show Blk x1 h_ 39 #[.int .i64 0, .int .i64 0, .int .i64 0, .int .i64 0, .int .i64 0, .int .i64 0] by rw [ex1, eh_]; exact blk_new3_2 _ _ _ _ _ _ _ )
  have R2 := Lib.hid hbx
  have hz_x1 := R2.out.size
  clear hbx ex1 es_ eu_ eh_
  have kS_0 : x1.cell? ⟨s_, 0, none⟩ = some (.int .i64 cn) := BS.out.cell 0
  have kS_1 : x1.cell? ⟨s_, 1, none⟩ = some (.int .i64 at_) := BS.out.cell 1
  have kS_2 : x1.cell? ⟨s_, 2, none⟩ = some (.int .i64 lo) := BS.out.cell 2
  have kS_3 : x1.cell? ⟨s_, 3, none⟩ = some (.int .i64 hi) := BS.out.cell 3
  have kS_4 : x1.cell? ⟨s_, 4, none⟩ = some (.int .i64 pp) := BS.out.cell 4
  have kS_5 : x1.cell? ⟨s_, 5, none⟩ = some (.int .i64 le) := BS.out.cell 5
  have kS_6 : x1.cell? ⟨s_, 6, none⟩ = some (.int .i64 re) := BS.out.cell 6
  have kU_0 : x1.cell? ⟨u_, 0, none⟩ = some (.int .i64 ol) := BU.out.cell 0
  have kU_1 : x1.cell? ⟨u_, 1, none⟩ = some (.int .i64 oh) := BU.out.cell 1
  go_wp2_with fail
  refine (certV at_ lo hi pp le re _).mono ?_
  rintro e y3 ⟨rfl, hb⟩
  clear kS_0 kS_1 kS_2 kS_3 kS_4 kS_5 kS_6 kU_0 kU_1
  have hbx : Below x1.heap.size x1 y3 := below_via (by go_grown) hb (by first | (simp; done) | (simp; omega))
  have BS := Lib.hid (BS.out.stays hbx)
  have BU := Lib.hid (BU.out.stays hbx)
  have BH := Lib.hid (BH.out.stays hbx)
  have R4 := Lib.hid (R2.out.trans (hbx.mono hz_x1))
  have hz_y3 := R4.out.size
  clear hb hbx  R2 hz_x1
  rw [HE.out]
  have kS_0 : y3.cell? ⟨s_, 0, none⟩ = some (.int .i64 cn) := BS.out.cell 0
  have kS_1 : y3.cell? ⟨s_, 1, none⟩ = some (.int .i64 at_) := BS.out.cell 1
  have kS_2 : y3.cell? ⟨s_, 2, none⟩ = some (.int .i64 lo) := BS.out.cell 2
  have kS_3 : y3.cell? ⟨s_, 3, none⟩ = some (.int .i64 hi) := BS.out.cell 3
  have kS_4 : y3.cell? ⟨s_, 4, none⟩ = some (.int .i64 pp) := BS.out.cell 4
  have kS_5 : y3.cell? ⟨s_, 5, none⟩ = some (.int .i64 le) := BS.out.cell 5
  have kS_6 : y3.cell? ⟨s_, 6, none⟩ = some (.int .i64 re) := BS.out.cell 6
  have kU_0 : y3.cell? ⟨u_, 0, none⟩ = some (.int .i64 ol) := BU.out.cell 0
  have kU_1 : y3.cell? ⟨u_, 1, none⟩ = some (.int .i64 oh) := BU.out.cell 1
  go_wp2_with fail
  refine (intervalV ol oh _).mono ?_
  rintro e y5 ⟨rfl, hb⟩
  clear kS_0 kS_1 kS_2 kS_3 kS_4 kS_5 kS_6 kU_0 kU_1
  have hbx : Below y3.heap.size y3 y5 := below_via (by go_grown) hb (by first | (simp; done) | (simp; omega))
  have BS := Lib.hid (BS.out.stays hbx)
  have BU := Lib.hid (BU.out.stays hbx)
  have BH := Lib.hid (BH.out.stays hbx)
  have R6 := Lib.hid (R4.out.trans (hbx.mono hz_y3))
  have hz_y5 := R6.out.size
  clear hb hbx  R4 hz_y3
  rw [d2]
  have kS_0 : y5.cell? ⟨s_, 0, none⟩ = some (.int .i64 cn) := BS.out.cell 0
  have kS_1 : y5.cell? ⟨s_, 1, none⟩ = some (.int .i64 at_) := BS.out.cell 1
  have kS_2 : y5.cell? ⟨s_, 2, none⟩ = some (.int .i64 lo) := BS.out.cell 2
  have kS_3 : y5.cell? ⟨s_, 3, none⟩ = some (.int .i64 hi) := BS.out.cell 3
  have kS_4 : y5.cell? ⟨s_, 4, none⟩ = some (.int .i64 pp) := BS.out.cell 4
  have kS_5 : y5.cell? ⟨s_, 5, none⟩ = some (.int .i64 le) := BS.out.cell 5
  have kS_6 : y5.cell? ⟨s_, 6, none⟩ = some (.int .i64 re) := BS.out.cell 6
  have kU_0 : y5.cell? ⟨u_, 0, none⟩ = some (.int .i64 ol) := BU.out.cell 0
  have kU_1 : y5.cell? ⟨u_, 1, none⟩ = some (.int .i64 oh) := BU.out.cell 1
  have cH := BH.out.cell
  have zH := BH.out.frozen
  go_wp2
  clear zH cH
  clear kS_0 kS_1 kS_2 kS_3 kS_4 kS_5 kS_6 kU_0 kU_1
  generalize hwd : World.setCell _ ⟨h_, 5, none⟩ _ = wd
  have hwd2 : stores y5 h_ [.int .i64 0, .int .i64 0, .int .i64 0, .int .i64 0, .int .i64 0, .int .i64 0] 0 = wd := hwd
  have D1 : Blk wd h_ 39 #[.int .i64 0, .int .i64 0, .int .i64 0, .int .i64 0, .int .i64 0, .int .i64 0] := by rw [← hwd2]; exact BH.out.filled _ rfl
  have RD : Below w.heap.size w wd := by rw [← hwd2]; exact Below.stores (by omega) _ _ _ R6.out
  clear hwd hwd2
  have d1_0 : wd.cell? ⟨h_, 0, none⟩ = some (.int .i64 0) := D1.cell 0
  have d1_1 : wd.cell? ⟨h_, 1, none⟩ = some (.int .i64 0) := D1.cell 1
  have d1_2 : wd.cell? ⟨h_, 2, none⟩ = some (.int .i64 0) := D1.cell 2
  have d1_3 : wd.cell? ⟨h_, 3, none⟩ = some (.int .i64 0) := D1.cell 3
  have d1_4 : wd.cell? ⟨h_, 4, none⟩ = some (.int .i64 0) := D1.cell 4
  have d1_5 : wd.cell? ⟨h_, 5, none⟩ = some (.int .i64 0) := D1.cell 5
  try go_wp2_with fail
  refine bodyPost_ret (v := .tuple #[.agg #[.int .i64 0, .int .i64 0, .int .i64 0, .int .i64 0, .int .i64 0, .int .i64 0], .int .i64 4]) (by simp [results, Try.results43, go_sem, *]) rfl ⟨rfl, RD⟩
set_option maxRecDepth 100000 in
set_option maxHeartbeats 4000000 in
theorem wake_4 (cn at_ lo hi pp le re ol oh a : Int) (w : World) (h1 : knE at_ lo hi pp le re = 0) (h2 : spanOk ol oh) (h3 : 0 ≤ ol) (h4 : ¬ tickOk a) : Calls Try.prog 43 #[.agg #[.int .i64 cn, .int .i64 at_, .int .i64 lo, .int .i64 hi, .int .i64 pp, .int .i64 le, .int .i64 re], .agg #[.int .i64 ol, .int .i64 oh], .int .i64 a] w fun e w' => e = .returned (.tuple #[.agg #[.int .i64 0, .int .i64 0, .int .i64 0, .int .i64 0, .int .i64 0, .int .i64 0], .int .i64 4]) ∧ Below w.heap.size w w' := by
  have HE := Lib.hid h1
  have HS := Lib.hid (kn_span at_ lo hi pp le re h1)
  have HK := Lib.hid (kn_begin at_ lo hi pp le re h1)
  clear h1
  have d2 : decide (spanOk ol oh) = true := decide_eq_true h2
  have H2 := Lib.hid h2
  clear h2
  have d3 : ¬ ol < 0 := by omega
  clear h3
  have d4 : decide (tickOk a) = false := decide_eq_false h4
  clear h4
  go_enter Try.func43, Try.ntmps43
  go_upto_region 1 with fail
  obtain ⟨x1, s_, u_, h_, ex1, es_, eu_, eh_⟩ : ∃ x1 s_ u_ h_, x1 = ((w.alloc (.cells #[.int .i64 cn, .int .i64 at_, .int .i64 lo, .int .i64 hi, .int .i64 pp, .int .i64 le, .int .i64 re] 41)).alloc (.cells #[.int .i64 ol, .int .i64 oh] 37)).alloc (.cells #[.int .i64 0, .int .i64 0, .int .i64 0, .int .i64 0, .int .i64 0, .int .i64 0] 39) ∧ s_ = w.heap.size ∧ u_ = w.heap.size + 1 ∧ h_ = w.heap.size + 1 + 1 := ⟨_, _, _, _, rfl, rfl, rfl, rfl⟩
  rw [← ex1, ← eh_, ← eu_, ← es_]
  have hbx : Below w.heap.size w x1 := by rw [ex1]; exact below_alloc3 _ _ _ _ 
  have o_S_U : s_ < u_ := by omega
  have o_U_H : u_ < h_ := by omega
  have g_S : w.heap.size ≤ s_ := by rw [es_]; exact Nat.le_refl _
  have BS := Lib.hid (show Blk x1 s_ 41 #[.int .i64 cn, .int .i64 at_, .int .i64 lo, .int .i64 hi, .int .i64 pp, .int .i64 le, .int .i64 re] by rw [ex1, es_]; exact blk_new3_0 _ _ _ _ _ _ _ )
  have BU := Lib.hid (show Blk x1 u_ 37 #[.int .i64 ol, .int .i64 oh] by rw [ex1, eu_]; exact blk_new3_1 _ _ _ _ _ _ _ )
  have BH := Lib.hid (show Blk x1 h_ 39 #[.int .i64 0, .int .i64 0, .int .i64 0, .int .i64 0, .int .i64 0, .int .i64 0] by rw [ex1, eh_]; exact blk_new3_2 _ _ _ _ _ _ _ )
  have R2 := Lib.hid hbx
  have hz_x1 := R2.out.size
  clear hbx ex1 es_ eu_ eh_
  have kS_0 : x1.cell? ⟨s_, 0, none⟩ = some (.int .i64 cn) := BS.out.cell 0
  have kS_1 : x1.cell? ⟨s_, 1, none⟩ = some (.int .i64 at_) := BS.out.cell 1
  have kS_2 : x1.cell? ⟨s_, 2, none⟩ = some (.int .i64 lo) := BS.out.cell 2
  have kS_3 : x1.cell? ⟨s_, 3, none⟩ = some (.int .i64 hi) := BS.out.cell 3
  have kS_4 : x1.cell? ⟨s_, 4, none⟩ = some (.int .i64 pp) := BS.out.cell 4
  have kS_5 : x1.cell? ⟨s_, 5, none⟩ = some (.int .i64 le) := BS.out.cell 5
  have kS_6 : x1.cell? ⟨s_, 6, none⟩ = some (.int .i64 re) := BS.out.cell 6
  have kU_0 : x1.cell? ⟨u_, 0, none⟩ = some (.int .i64 ol) := BU.out.cell 0
  have kU_1 : x1.cell? ⟨u_, 1, none⟩ = some (.int .i64 oh) := BU.out.cell 1
  go_wp2_with fail
  refine (certV at_ lo hi pp le re _).mono ?_
  rintro e y3 ⟨rfl, hb⟩
  clear kS_0 kS_1 kS_2 kS_3 kS_4 kS_5 kS_6 kU_0 kU_1
  have hbx : Below x1.heap.size x1 y3 := below_via (by go_grown) hb (by first | (simp; done) | (simp; omega))
  have BS := Lib.hid (BS.out.stays hbx)
  have BU := Lib.hid (BU.out.stays hbx)
  have BH := Lib.hid (BH.out.stays hbx)
  have R4 := Lib.hid (R2.out.trans (hbx.mono hz_x1))
  have hz_y3 := R4.out.size
  clear hb hbx  R2 hz_x1
  rw [HE.out]
  have kS_0 : y3.cell? ⟨s_, 0, none⟩ = some (.int .i64 cn) := BS.out.cell 0
  have kS_1 : y3.cell? ⟨s_, 1, none⟩ = some (.int .i64 at_) := BS.out.cell 1
  have kS_2 : y3.cell? ⟨s_, 2, none⟩ = some (.int .i64 lo) := BS.out.cell 2
  have kS_3 : y3.cell? ⟨s_, 3, none⟩ = some (.int .i64 hi) := BS.out.cell 3
  have kS_4 : y3.cell? ⟨s_, 4, none⟩ = some (.int .i64 pp) := BS.out.cell 4
  have kS_5 : y3.cell? ⟨s_, 5, none⟩ = some (.int .i64 le) := BS.out.cell 5
  have kS_6 : y3.cell? ⟨s_, 6, none⟩ = some (.int .i64 re) := BS.out.cell 6
  have kU_0 : y3.cell? ⟨u_, 0, none⟩ = some (.int .i64 ol) := BU.out.cell 0
  have kU_1 : y3.cell? ⟨u_, 1, none⟩ = some (.int .i64 oh) := BU.out.cell 1
  go_wp2_with fail
  refine (intervalV ol oh _).mono ?_
  rintro e y5 ⟨rfl, hb⟩
  clear kS_0 kS_1 kS_2 kS_3 kS_4 kS_5 kS_6 kU_0 kU_1
  have hbx : Below y3.heap.size y3 y5 := below_via (by go_grown) hb (by first | (simp; done) | (simp; omega))
  have BS := Lib.hid (BS.out.stays hbx)
  have BU := Lib.hid (BU.out.stays hbx)
  have BH := Lib.hid (BH.out.stays hbx)
  have R6 := Lib.hid (R4.out.trans (hbx.mono hz_y3))
  have hz_y5 := R6.out.size
  clear hb hbx  R4 hz_y3
  rw [d2]
  have kS_0 : y5.cell? ⟨s_, 0, none⟩ = some (.int .i64 cn) := BS.out.cell 0
  have kS_1 : y5.cell? ⟨s_, 1, none⟩ = some (.int .i64 at_) := BS.out.cell 1
  have kS_2 : y5.cell? ⟨s_, 2, none⟩ = some (.int .i64 lo) := BS.out.cell 2
  have kS_3 : y5.cell? ⟨s_, 3, none⟩ = some (.int .i64 hi) := BS.out.cell 3
  have kS_4 : y5.cell? ⟨s_, 4, none⟩ = some (.int .i64 pp) := BS.out.cell 4
  have kS_5 : y5.cell? ⟨s_, 5, none⟩ = some (.int .i64 le) := BS.out.cell 5
  have kS_6 : y5.cell? ⟨s_, 6, none⟩ = some (.int .i64 re) := BS.out.cell 6
  have kU_0 : y5.cell? ⟨u_, 0, none⟩ = some (.int .i64 ol) := BU.out.cell 0
  have kU_1 : y5.cell? ⟨u_, 1, none⟩ = some (.int .i64 oh) := BU.out.cell 1
  go_wp2_with fail
  refine (ticksV a _).mono ?_
  rintro e q_ ⟨rfl, rfl⟩
  rw [d4]
  clear kS_0 kS_1 kS_2 kS_3 kS_4 kS_5 kS_6 kU_0 kU_1
  have kS_0 : y5.cell? ⟨s_, 0, none⟩ = some (.int .i64 cn) := BS.out.cell 0
  have kS_1 : y5.cell? ⟨s_, 1, none⟩ = some (.int .i64 at_) := BS.out.cell 1
  have kS_2 : y5.cell? ⟨s_, 2, none⟩ = some (.int .i64 lo) := BS.out.cell 2
  have kS_3 : y5.cell? ⟨s_, 3, none⟩ = some (.int .i64 hi) := BS.out.cell 3
  have kS_4 : y5.cell? ⟨s_, 4, none⟩ = some (.int .i64 pp) := BS.out.cell 4
  have kS_5 : y5.cell? ⟨s_, 5, none⟩ = some (.int .i64 le) := BS.out.cell 5
  have kS_6 : y5.cell? ⟨s_, 6, none⟩ = some (.int .i64 re) := BS.out.cell 6
  have kU_0 : y5.cell? ⟨u_, 0, none⟩ = some (.int .i64 ol) := BU.out.cell 0
  have kU_1 : y5.cell? ⟨u_, 1, none⟩ = some (.int .i64 oh) := BU.out.cell 1
  have cH := BH.out.cell
  have zH := BH.out.frozen
  go_wp2
  clear zH cH
  clear kS_0 kS_1 kS_2 kS_3 kS_4 kS_5 kS_6 kU_0 kU_1
  generalize hwd : World.setCell _ ⟨h_, 5, none⟩ _ = wd
  have hwd2 : stores y5 h_ [.int .i64 0, .int .i64 0, .int .i64 0, .int .i64 0, .int .i64 0, .int .i64 0] 0 = wd := hwd
  have D1 : Blk wd h_ 39 #[.int .i64 0, .int .i64 0, .int .i64 0, .int .i64 0, .int .i64 0, .int .i64 0] := by rw [← hwd2]; exact BH.out.filled _ rfl
  have RD : Below w.heap.size w wd := by rw [← hwd2]; exact Below.stores (by omega) _ _ _ R6.out
  clear hwd hwd2
  have d1_0 : wd.cell? ⟨h_, 0, none⟩ = some (.int .i64 0) := D1.cell 0
  have d1_1 : wd.cell? ⟨h_, 1, none⟩ = some (.int .i64 0) := D1.cell 1
  have d1_2 : wd.cell? ⟨h_, 2, none⟩ = some (.int .i64 0) := D1.cell 2
  have d1_3 : wd.cell? ⟨h_, 3, none⟩ = some (.int .i64 0) := D1.cell 3
  have d1_4 : wd.cell? ⟨h_, 4, none⟩ = some (.int .i64 0) := D1.cell 4
  have d1_5 : wd.cell? ⟨h_, 5, none⟩ = some (.int .i64 0) := D1.cell 5
  try go_wp2_with fail
  refine bodyPost_ret (v := .tuple #[.agg #[.int .i64 0, .int .i64 0, .int .i64 0, .int .i64 0, .int .i64 0, .int .i64 0], .int .i64 4]) (by simp [results, Try.results43, go_sem, *]) rfl ⟨rfl, RD⟩
set_option maxRecDepth 100000 in
set_option maxHeartbeats 4000000 in
theorem wake_5 (cn at_ lo hi pp le re ol oh a : Int) (w : World) (h1 : knE at_ lo hi pp le re = 0) (h2 : spanOk ol oh) (h3 : 0 ≤ ol) (h4 : tickOk a) (h5 : ¬ spanOk (lo + ol) (hi + oh)) : Calls Try.prog 43 #[.agg #[.int .i64 cn, .int .i64 at_, .int .i64 lo, .int .i64 hi, .int .i64 pp, .int .i64 le, .int .i64 re], .agg #[.int .i64 ol, .int .i64 oh], .int .i64 a] w fun e w' => e = .returned (.tuple #[.agg #[.int .i64 0, .int .i64 0, .int .i64 0, .int .i64 0, .int .i64 0, .int .i64 0], .int .i64 4]) ∧ Below w.heap.size w w' := by
  have HE := Lib.hid h1
  have HS := Lib.hid (kn_span at_ lo hi pp le re h1)
  have HK := Lib.hid (kn_begin at_ lo hi pp le re h1)
  clear h1
  have d2 : decide (spanOk ol oh) = true := decide_eq_true h2
  have H2 := Lib.hid h2
  clear h2
  have d3 : ¬ ol < 0 := by omega
  clear h3
  have d4 : decide (tickOk a) = true := decide_eq_true h4
  have H4 := Lib.hid h4
  clear h4
  have H5 := Lib.hid h5
  clear h5
  obtain ⟨x, hx⟩ : ∃ x, lo + ol = x := ⟨_, rfl⟩
  obtain ⟨y, hy⟩ : ∃ y, hi + oh = y := ⟨_, rfl⟩
  skip
  have HX := Lib.hid hx
  have HY := Lib.hid hy
  clear hx hy
  go_enter Try.func43, Try.ntmps43
  go_upto_region 1 with fail
  obtain ⟨x1, s_, u_, h_, ex1, es_, eu_, eh_⟩ : ∃ x1 s_ u_ h_, x1 = ((w.alloc (.cells #[.int .i64 cn, .int .i64 at_, .int .i64 lo, .int .i64 hi, .int .i64 pp, .int .i64 le, .int .i64 re] 41)).alloc (.cells #[.int .i64 ol, .int .i64 oh] 37)).alloc (.cells #[.int .i64 0, .int .i64 0, .int .i64 0, .int .i64 0, .int .i64 0, .int .i64 0] 39) ∧ s_ = w.heap.size ∧ u_ = w.heap.size + 1 ∧ h_ = w.heap.size + 1 + 1 := ⟨_, _, _, _, rfl, rfl, rfl, rfl⟩
  rw [← ex1, ← eh_, ← eu_, ← es_]
  have hbx : Below w.heap.size w x1 := by rw [ex1]; exact below_alloc3 _ _ _ _ 
  have o_S_U : s_ < u_ := by omega
  have o_U_H : u_ < h_ := by omega
  have g_S : w.heap.size ≤ s_ := by rw [es_]; exact Nat.le_refl _
  have BS := Lib.hid (show Blk x1 s_ 41 #[.int .i64 cn, .int .i64 at_, .int .i64 lo, .int .i64 hi, .int .i64 pp, .int .i64 le, .int .i64 re] by rw [ex1, es_]; exact blk_new3_0 _ _ _ _ _ _ _ )
  have BU := Lib.hid (show Blk x1 u_ 37 #[.int .i64 ol, .int .i64 oh] by rw [ex1, eu_]; exact blk_new3_1 _ _ _ _ _ _ _ )
  have BH := Lib.hid (show Blk x1 h_ 39 #[.int .i64 0, .int .i64 0, .int .i64 0, .int .i64 0, .int .i64 0, .int .i64 0] by rw [ex1, eh_]; exact blk_new3_2 _ _ _ _ _ _ _ )
  have R2 := Lib.hid hbx
  have hz_x1 := R2.out.size
  clear hbx ex1 es_ eu_ eh_
  have kS_0 : x1.cell? ⟨s_, 0, none⟩ = some (.int .i64 cn) := BS.out.cell 0
  have kS_1 : x1.cell? ⟨s_, 1, none⟩ = some (.int .i64 at_) := BS.out.cell 1
  have kS_2 : x1.cell? ⟨s_, 2, none⟩ = some (.int .i64 lo) := BS.out.cell 2
  have kS_3 : x1.cell? ⟨s_, 3, none⟩ = some (.int .i64 hi) := BS.out.cell 3
  have kS_4 : x1.cell? ⟨s_, 4, none⟩ = some (.int .i64 pp) := BS.out.cell 4
  have kS_5 : x1.cell? ⟨s_, 5, none⟩ = some (.int .i64 le) := BS.out.cell 5
  have kS_6 : x1.cell? ⟨s_, 6, none⟩ = some (.int .i64 re) := BS.out.cell 6
  have kU_0 : x1.cell? ⟨u_, 0, none⟩ = some (.int .i64 ol) := BU.out.cell 0
  have kU_1 : x1.cell? ⟨u_, 1, none⟩ = some (.int .i64 oh) := BU.out.cell 1
  go_wp2_with fail
  refine (certV at_ lo hi pp le re _).mono ?_
  rintro e y3 ⟨rfl, hb⟩
  clear kS_0 kS_1 kS_2 kS_3 kS_4 kS_5 kS_6 kU_0 kU_1
  have hbx : Below x1.heap.size x1 y3 := below_via (by go_grown) hb (by first | (simp; done) | (simp; omega))
  have BS := Lib.hid (BS.out.stays hbx)
  have BU := Lib.hid (BU.out.stays hbx)
  have BH := Lib.hid (BH.out.stays hbx)
  have R4 := Lib.hid (R2.out.trans (hbx.mono hz_x1))
  have hz_y3 := R4.out.size
  clear hb hbx  R2 hz_x1
  rw [HE.out]
  have kS_0 : y3.cell? ⟨s_, 0, none⟩ = some (.int .i64 cn) := BS.out.cell 0
  have kS_1 : y3.cell? ⟨s_, 1, none⟩ = some (.int .i64 at_) := BS.out.cell 1
  have kS_2 : y3.cell? ⟨s_, 2, none⟩ = some (.int .i64 lo) := BS.out.cell 2
  have kS_3 : y3.cell? ⟨s_, 3, none⟩ = some (.int .i64 hi) := BS.out.cell 3
  have kS_4 : y3.cell? ⟨s_, 4, none⟩ = some (.int .i64 pp) := BS.out.cell 4
  have kS_5 : y3.cell? ⟨s_, 5, none⟩ = some (.int .i64 le) := BS.out.cell 5
  have kS_6 : y3.cell? ⟨s_, 6, none⟩ = some (.int .i64 re) := BS.out.cell 6
  have kU_0 : y3.cell? ⟨u_, 0, none⟩ = some (.int .i64 ol) := BU.out.cell 0
  have kU_1 : y3.cell? ⟨u_, 1, none⟩ = some (.int .i64 oh) := BU.out.cell 1
  go_wp2_with fail
  refine (intervalV ol oh _).mono ?_
  rintro e y5 ⟨rfl, hb⟩
  clear kS_0 kS_1 kS_2 kS_3 kS_4 kS_5 kS_6 kU_0 kU_1
  have hbx : Below y3.heap.size y3 y5 := below_via (by go_grown) hb (by first | (simp; done) | (simp; omega))
  have BS := Lib.hid (BS.out.stays hbx)
  have BU := Lib.hid (BU.out.stays hbx)
  have BH := Lib.hid (BH.out.stays hbx)
  have R6 := Lib.hid (R4.out.trans (hbx.mono hz_y3))
  have hz_y5 := R6.out.size
  clear hb hbx  R4 hz_y3
  rw [d2]
  have kS_0 : y5.cell? ⟨s_, 0, none⟩ = some (.int .i64 cn) := BS.out.cell 0
  have kS_1 : y5.cell? ⟨s_, 1, none⟩ = some (.int .i64 at_) := BS.out.cell 1
  have kS_2 : y5.cell? ⟨s_, 2, none⟩ = some (.int .i64 lo) := BS.out.cell 2
  have kS_3 : y5.cell? ⟨s_, 3, none⟩ = some (.int .i64 hi) := BS.out.cell 3
  have kS_4 : y5.cell? ⟨s_, 4, none⟩ = some (.int .i64 pp) := BS.out.cell 4
  have kS_5 : y5.cell? ⟨s_, 5, none⟩ = some (.int .i64 le) := BS.out.cell 5
  have kS_6 : y5.cell? ⟨s_, 6, none⟩ = some (.int .i64 re) := BS.out.cell 6
  have kU_0 : y5.cell? ⟨u_, 0, none⟩ = some (.int .i64 ol) := BU.out.cell 0
  have kU_1 : y5.cell? ⟨u_, 1, none⟩ = some (.int .i64 oh) := BU.out.cell 1
  go_wp2_with fail
  refine (ticksV a _).mono ?_
  rintro e q_ ⟨rfl, rfl⟩
  rw [d4]
  clear kS_0 kS_1 kS_2 kS_3 kS_4 kS_5 kS_6 kU_0 kU_1
  have kS_0 : y5.cell? ⟨s_, 0, none⟩ = some (.int .i64 cn) := BS.out.cell 0
  have kS_1 : y5.cell? ⟨s_, 1, none⟩ = some (.int .i64 at_) := BS.out.cell 1
  have kS_2 : y5.cell? ⟨s_, 2, none⟩ = some (.int .i64 lo) := BS.out.cell 2
  have kS_3 : y5.cell? ⟨s_, 3, none⟩ = some (.int .i64 hi) := BS.out.cell 3
  have kS_4 : y5.cell? ⟨s_, 4, none⟩ = some (.int .i64 pp) := BS.out.cell 4
  have kS_5 : y5.cell? ⟨s_, 5, none⟩ = some (.int .i64 le) := BS.out.cell 5
  have kS_6 : y5.cell? ⟨s_, 6, none⟩ = some (.int .i64 re) := BS.out.cell 6
  have kU_0 : y5.cell? ⟨u_, 0, none⟩ = some (.int .i64 ol) := BU.out.cell 0
  have kU_1 : y5.cell? ⟨u_, 1, none⟩ = some (.int .i64 oh) := BU.out.cell 1
  go_wp2_with fail
  refine (add_bad lo hi ol oh _ HS.out H2.out H5.out).mono ?_
  rintro e y7 ⟨rfl, hb⟩
  clear kS_0 kS_1 kS_2 kS_3 kS_4 kS_5 kS_6 kU_0 kU_1
  have hbx : Below y5.heap.size y5 y7 := below_via (by go_grown) hb (by first | (simp; done) | (simp; omega))
  have BS := Lib.hid (BS.out.stays hbx)
  have BU := Lib.hid (BU.out.stays hbx)
  have BH := Lib.hid (BH.out.stays hbx)
  have R8 := Lib.hid (R6.out.trans (hbx.mono hz_y5))
  have hz_y7 := R8.out.size
  clear hb hbx  R6 hz_y5
  go_upto_region 9 with fail
  obtain ⟨x9, o_, ex9, eo_⟩ : ∃ x9 o_, x9 = y7.alloc (.cells #[.int .i64 0, .int .i64 0] 37) ∧ o_ = y7.heap.size := ⟨_, _, rfl, rfl⟩
  rw [← ex9, ← eo_]
  have hbx : Below y7.heap.size y7 x9 := by rw [ex9]; exact below_alloc1 _ _ 
  have o_S_O : s_ < o_ := by rw [eo_]; exact BS.out.lt
  have o_U_O : u_ < o_ := by rw [eo_]; exact BU.out.lt
  have o_H_O : h_ < o_ := by rw [eo_]; exact BH.out.lt
  have g_O : w.heap.size ≤ o_ := by rw [eo_]; exact hz_y7
  have BS := Lib.hid (BS.out.stays hbx)
  have BU := Lib.hid (BU.out.stays hbx)
  have BH := Lib.hid (BH.out.stays hbx)
  have BO := Lib.hid (show Blk x9 o_ 37 #[.int .i64 0, .int .i64 0] by rw [ex9, eo_]; exact blk_new1_0 _ _ _ )
  have R10 := Lib.hid (R8.out.trans (hbx.mono hz_y7))
  have hz_x9 := R10.out.size
  clear hbx ex9 eo_ R8 hz_y7
  have kS_0 : x9.cell? ⟨s_, 0, none⟩ = some (.int .i64 cn) := BS.out.cell 0
  have kS_1 : x9.cell? ⟨s_, 1, none⟩ = some (.int .i64 at_) := BS.out.cell 1
  have kS_2 : x9.cell? ⟨s_, 2, none⟩ = some (.int .i64 lo) := BS.out.cell 2
  have kS_3 : x9.cell? ⟨s_, 3, none⟩ = some (.int .i64 hi) := BS.out.cell 3
  have kS_4 : x9.cell? ⟨s_, 4, none⟩ = some (.int .i64 pp) := BS.out.cell 4
  have kS_5 : x9.cell? ⟨s_, 5, none⟩ = some (.int .i64 le) := BS.out.cell 5
  have kS_6 : x9.cell? ⟨s_, 6, none⟩ = some (.int .i64 re) := BS.out.cell 6
  have kU_0 : x9.cell? ⟨u_, 0, none⟩ = some (.int .i64 ol) := BU.out.cell 0
  have kU_1 : x9.cell? ⟨u_, 1, none⟩ = some (.int .i64 oh) := BU.out.cell 1
  have cH := BH.out.cell
  have zH := BH.out.frozen
  go_wp2
  clear zH cH
  clear kS_0 kS_1 kS_2 kS_3 kS_4 kS_5 kS_6 kU_0 kU_1
  generalize hwd : World.setCell _ ⟨h_, 5, none⟩ _ = wd
  have hwd2 : stores x9 h_ [.int .i64 0, .int .i64 0, .int .i64 0, .int .i64 0, .int .i64 0, .int .i64 0] 0 = wd := hwd
  have D1 : Blk wd h_ 39 #[.int .i64 0, .int .i64 0, .int .i64 0, .int .i64 0, .int .i64 0, .int .i64 0] := by rw [← hwd2]; exact BH.out.filled _ rfl
  have RD : Below w.heap.size w wd := by rw [← hwd2]; exact Below.stores (by omega) _ _ _ R10.out
  clear hwd hwd2
  have d1_0 : wd.cell? ⟨h_, 0, none⟩ = some (.int .i64 0) := D1.cell 0
  have d1_1 : wd.cell? ⟨h_, 1, none⟩ = some (.int .i64 0) := D1.cell 1
  have d1_2 : wd.cell? ⟨h_, 2, none⟩ = some (.int .i64 0) := D1.cell 2
  have d1_3 : wd.cell? ⟨h_, 3, none⟩ = some (.int .i64 0) := D1.cell 3
  have d1_4 : wd.cell? ⟨h_, 4, none⟩ = some (.int .i64 0) := D1.cell 4
  have d1_5 : wd.cell? ⟨h_, 5, none⟩ = some (.int .i64 0) := D1.cell 5
  try go_wp2_with fail
  refine bodyPost_ret (v := .tuple #[.agg #[.int .i64 0, .int .i64 0, .int .i64 0, .int .i64 0, .int .i64 0, .int .i64 0], .int .i64 4]) (by simp [results, Try.results43, go_sem, *]) rfl ⟨rfl, RD⟩
set_option maxRecDepth 100000 in
set_option maxHeartbeats 4000000 in
theorem wake_6 (cn at_ lo hi pp le re ol oh a : Int) (w : World) (h1 : knE at_ lo hi pp le re = 0) (h2 : spanOk ol oh) (h3 : 0 ≤ ol) (h4 : tickOk a) (h5 : spanOk (lo + ol) (hi + oh)) : Calls Try.prog 43 #[.agg #[.int .i64 cn, .int .i64 at_, .int .i64 lo, .int .i64 hi, .int .i64 pp, .int .i64 le, .int .i64 re], .agg #[.int .i64 ol, .int .i64 oh], .int .i64 a] w fun e w' => e = .returned (.tuple #[.agg #[.int .i64 a, .int .i64 (lo + ol), .int .i64 (hi + oh), .int .i64 pp, .int .i64 0, .int .i64 0], .int .i64 0]) ∧ Below w.heap.size w w' := by
  have HE := Lib.hid h1
  have HS := Lib.hid (kn_span at_ lo hi pp le re h1)
  have HK := Lib.hid (kn_begin at_ lo hi pp le re h1)
  clear h1
  have d2 : decide (spanOk ol oh) = true := decide_eq_true h2
  have H2 := Lib.hid h2
  clear h2
  have d3 : ¬ ol < 0 := by omega
  clear h3
  have d4 : decide (tickOk a) = true := decide_eq_true h4
  have H4 := Lib.hid h4
  clear h4
  have H5 := Lib.hid h5
  clear h5
  obtain ⟨x, hx⟩ : ∃ x, lo + ol = x := ⟨_, rfl⟩
  obtain ⟨y, hy⟩ : ∃ y, hi + oh = y := ⟨_, rfl⟩
  rw [hx, hy]
  have HX := Lib.hid hx
  have HY := Lib.hid hy
  have H6 := Lib.hid (HK.out a x y H4.out (by rw [← hx, ← hy]; exact H5.out))
  clear hx hy
  go_enter Try.func43, Try.ntmps43
  go_upto_region 1 with fail
  obtain ⟨x1, s_, u_, h_, ex1, es_, eu_, eh_⟩ : ∃ x1 s_ u_ h_, x1 = ((w.alloc (.cells #[.int .i64 cn, .int .i64 at_, .int .i64 lo, .int .i64 hi, .int .i64 pp, .int .i64 le, .int .i64 re] 41)).alloc (.cells #[.int .i64 ol, .int .i64 oh] 37)).alloc (.cells #[.int .i64 0, .int .i64 0, .int .i64 0, .int .i64 0, .int .i64 0, .int .i64 0] 39) ∧ s_ = w.heap.size ∧ u_ = w.heap.size + 1 ∧ h_ = w.heap.size + 1 + 1 := ⟨_, _, _, _, rfl, rfl, rfl, rfl⟩
  rw [← ex1, ← eh_, ← eu_, ← es_]
  have hbx : Below w.heap.size w x1 := by rw [ex1]; exact below_alloc3 _ _ _ _ 
  have o_S_U : s_ < u_ := by omega
  have o_U_H : u_ < h_ := by omega
  have g_S : w.heap.size ≤ s_ := by rw [es_]; exact Nat.le_refl _
  have BS := Lib.hid (show Blk x1 s_ 41 #[.int .i64 cn, .int .i64 at_, .int .i64 lo, .int .i64 hi, .int .i64 pp, .int .i64 le, .int .i64 re] by rw [ex1, es_]; exact blk_new3_0 _ _ _ _ _ _ _ )
  have BU := Lib.hid (show Blk x1 u_ 37 #[.int .i64 ol, .int .i64 oh] by rw [ex1, eu_]; exact blk_new3_1 _ _ _ _ _ _ _ )
  have BH := Lib.hid (show Blk x1 h_ 39 #[.int .i64 0, .int .i64 0, .int .i64 0, .int .i64 0, .int .i64 0, .int .i64 0] by rw [ex1, eh_]; exact blk_new3_2 _ _ _ _ _ _ _ )
  have R2 := Lib.hid hbx
  have hz_x1 := R2.out.size
  clear hbx ex1 es_ eu_ eh_
  have kS_0 : x1.cell? ⟨s_, 0, none⟩ = some (.int .i64 cn) := BS.out.cell 0
  have kS_1 : x1.cell? ⟨s_, 1, none⟩ = some (.int .i64 at_) := BS.out.cell 1
  have kS_2 : x1.cell? ⟨s_, 2, none⟩ = some (.int .i64 lo) := BS.out.cell 2
  have kS_3 : x1.cell? ⟨s_, 3, none⟩ = some (.int .i64 hi) := BS.out.cell 3
  have kS_4 : x1.cell? ⟨s_, 4, none⟩ = some (.int .i64 pp) := BS.out.cell 4
  have kS_5 : x1.cell? ⟨s_, 5, none⟩ = some (.int .i64 le) := BS.out.cell 5
  have kS_6 : x1.cell? ⟨s_, 6, none⟩ = some (.int .i64 re) := BS.out.cell 6
  have kU_0 : x1.cell? ⟨u_, 0, none⟩ = some (.int .i64 ol) := BU.out.cell 0
  have kU_1 : x1.cell? ⟨u_, 1, none⟩ = some (.int .i64 oh) := BU.out.cell 1
  go_wp2_with fail
  refine (certV at_ lo hi pp le re _).mono ?_
  rintro e y3 ⟨rfl, hb⟩
  clear kS_0 kS_1 kS_2 kS_3 kS_4 kS_5 kS_6 kU_0 kU_1
  have hbx : Below x1.heap.size x1 y3 := below_via (by go_grown) hb (by first | (simp; done) | (simp; omega))
  have BS := Lib.hid (BS.out.stays hbx)
  have BU := Lib.hid (BU.out.stays hbx)
  have BH := Lib.hid (BH.out.stays hbx)
  have R4 := Lib.hid (R2.out.trans (hbx.mono hz_x1))
  have hz_y3 := R4.out.size
  clear hb hbx  R2 hz_x1
  rw [HE.out]
  have kS_0 : y3.cell? ⟨s_, 0, none⟩ = some (.int .i64 cn) := BS.out.cell 0
  have kS_1 : y3.cell? ⟨s_, 1, none⟩ = some (.int .i64 at_) := BS.out.cell 1
  have kS_2 : y3.cell? ⟨s_, 2, none⟩ = some (.int .i64 lo) := BS.out.cell 2
  have kS_3 : y3.cell? ⟨s_, 3, none⟩ = some (.int .i64 hi) := BS.out.cell 3
  have kS_4 : y3.cell? ⟨s_, 4, none⟩ = some (.int .i64 pp) := BS.out.cell 4
  have kS_5 : y3.cell? ⟨s_, 5, none⟩ = some (.int .i64 le) := BS.out.cell 5
  have kS_6 : y3.cell? ⟨s_, 6, none⟩ = some (.int .i64 re) := BS.out.cell 6
  have kU_0 : y3.cell? ⟨u_, 0, none⟩ = some (.int .i64 ol) := BU.out.cell 0
  have kU_1 : y3.cell? ⟨u_, 1, none⟩ = some (.int .i64 oh) := BU.out.cell 1
  go_wp2_with fail
  refine (intervalV ol oh _).mono ?_
  rintro e y5 ⟨rfl, hb⟩
  clear kS_0 kS_1 kS_2 kS_3 kS_4 kS_5 kS_6 kU_0 kU_1
  have hbx : Below y3.heap.size y3 y5 := below_via (by go_grown) hb (by first | (simp; done) | (simp; omega))
  have BS := Lib.hid (BS.out.stays hbx)
  have BU := Lib.hid (BU.out.stays hbx)
  have BH := Lib.hid (BH.out.stays hbx)
  have R6 := Lib.hid (R4.out.trans (hbx.mono hz_y3))
  have hz_y5 := R6.out.size
  clear hb hbx  R4 hz_y3
  rw [d2]
  have kS_0 : y5.cell? ⟨s_, 0, none⟩ = some (.int .i64 cn) := BS.out.cell 0
  have kS_1 : y5.cell? ⟨s_, 1, none⟩ = some (.int .i64 at_) := BS.out.cell 1
  have kS_2 : y5.cell? ⟨s_, 2, none⟩ = some (.int .i64 lo) := BS.out.cell 2
  have kS_3 : y5.cell? ⟨s_, 3, none⟩ = some (.int .i64 hi) := BS.out.cell 3
  have kS_4 : y5.cell? ⟨s_, 4, none⟩ = some (.int .i64 pp) := BS.out.cell 4
  have kS_5 : y5.cell? ⟨s_, 5, none⟩ = some (.int .i64 le) := BS.out.cell 5
  have kS_6 : y5.cell? ⟨s_, 6, none⟩ = some (.int .i64 re) := BS.out.cell 6
  have kU_0 : y5.cell? ⟨u_, 0, none⟩ = some (.int .i64 ol) := BU.out.cell 0
  have kU_1 : y5.cell? ⟨u_, 1, none⟩ = some (.int .i64 oh) := BU.out.cell 1
  go_wp2_with fail
  refine (ticksV a _).mono ?_
  rintro e q_ ⟨rfl, rfl⟩
  rw [d4]
  clear kS_0 kS_1 kS_2 kS_3 kS_4 kS_5 kS_6 kU_0 kU_1
  have kS_0 : y5.cell? ⟨s_, 0, none⟩ = some (.int .i64 cn) := BS.out.cell 0
  have kS_1 : y5.cell? ⟨s_, 1, none⟩ = some (.int .i64 at_) := BS.out.cell 1
  have kS_2 : y5.cell? ⟨s_, 2, none⟩ = some (.int .i64 lo) := BS.out.cell 2
  have kS_3 : y5.cell? ⟨s_, 3, none⟩ = some (.int .i64 hi) := BS.out.cell 3
  have kS_4 : y5.cell? ⟨s_, 4, none⟩ = some (.int .i64 pp) := BS.out.cell 4
  have kS_5 : y5.cell? ⟨s_, 5, none⟩ = some (.int .i64 le) := BS.out.cell 5
  have kS_6 : y5.cell? ⟨s_, 6, none⟩ = some (.int .i64 re) := BS.out.cell 6
  have kU_0 : y5.cell? ⟨u_, 0, none⟩ = some (.int .i64 ol) := BU.out.cell 0
  have kU_1 : y5.cell? ⟨u_, 1, none⟩ = some (.int .i64 oh) := BU.out.cell 1
  go_wp2_with fail
  refine (add_ok lo hi ol oh _ HS.out H2.out H5.out).mono ?_
  rintro e y7 ⟨rfl, hb⟩
  clear kS_0 kS_1 kS_2 kS_3 kS_4 kS_5 kS_6 kU_0 kU_1
  have hbx : Below y5.heap.size y5 y7 := below_via (by go_grown) hb (by first | (simp; done) | (simp; omega))
  have BS := Lib.hid (BS.out.stays hbx)
  have BU := Lib.hid (BU.out.stays hbx)
  have BH := Lib.hid (BH.out.stays hbx)
  have R8 := Lib.hid (R6.out.trans (hbx.mono hz_y5))
  have hz_y7 := R8.out.size
  clear hb hbx  R6 hz_y5
  rw [HX.out, HY.out]
  go_upto_region 9 with fail
  obtain ⟨x9, o_, ex9, eo_⟩ : ∃ x9 o_, x9 = y7.alloc (.cells #[.int .i64 x, .int .i64 y] 37) ∧ o_ = y7.heap.size := ⟨_, _, rfl, rfl⟩
  rw [← ex9, ← eo_]
  have hbx : Below y7.heap.size y7 x9 := by rw [ex9]; exact below_alloc1 _ _ 
  have o_S_O : s_ < o_ := by rw [eo_]; exact BS.out.lt
  have o_U_O : u_ < o_ := by rw [eo_]; exact BU.out.lt
  have o_H_O : h_ < o_ := by rw [eo_]; exact BH.out.lt
  have g_O : w.heap.size ≤ o_ := by rw [eo_]; exact hz_y7
  have BS := Lib.hid (BS.out.stays hbx)
  have BU := Lib.hid (BU.out.stays hbx)
  have BH := Lib.hid (BH.out.stays hbx)
  have BO := Lib.hid (show Blk x9 o_ 37 #[.int .i64 x, .int .i64 y] by rw [ex9, eo_]; exact blk_new1_0 _ _ _ )
  have R10 := Lib.hid (R8.out.trans (hbx.mono hz_y7))
  have hz_x9 := R10.out.size
  clear hbx ex9 eo_ R8 hz_y7
  have kS_0 : x9.cell? ⟨s_, 0, none⟩ = some (.int .i64 cn) := BS.out.cell 0
  have kS_1 : x9.cell? ⟨s_, 1, none⟩ = some (.int .i64 at_) := BS.out.cell 1
  have kS_2 : x9.cell? ⟨s_, 2, none⟩ = some (.int .i64 lo) := BS.out.cell 2
  have kS_3 : x9.cell? ⟨s_, 3, none⟩ = some (.int .i64 hi) := BS.out.cell 3
  have kS_4 : x9.cell? ⟨s_, 4, none⟩ = some (.int .i64 pp) := BS.out.cell 4
  have kS_5 : x9.cell? ⟨s_, 5, none⟩ = some (.int .i64 le) := BS.out.cell 5
  have kS_6 : x9.cell? ⟨s_, 6, none⟩ = some (.int .i64 re) := BS.out.cell 6
  have kU_0 : x9.cell? ⟨u_, 0, none⟩ = some (.int .i64 ol) := BU.out.cell 0
  have kU_1 : x9.cell? ⟨u_, 1, none⟩ = some (.int .i64 oh) := BU.out.cell 1
  have kO_0 : x9.cell? ⟨o_, 0, none⟩ = some (.int .i64 x) := BO.out.cell 0
  have kO_1 : x9.cell? ⟨o_, 1, none⟩ = some (.int .i64 y) := BO.out.cell 1
  go_wp2_with fail
  refine (begin_ok a x y pp _ H6.out).mono ?_
  rintro e y11 ⟨rfl, hb⟩
  clear kS_0 kS_1 kS_2 kS_3 kS_4 kS_5 kS_6 kU_0 kU_1 kO_0 kO_1
  have hbx : Below x9.heap.size x9 y11 := below_via (by go_grown) hb (by first | (simp; done) | (simp; omega))
  have BS := Lib.hid (BS.out.stays hbx)
  have BU := Lib.hid (BU.out.stays hbx)
  have BH := Lib.hid (BH.out.stays hbx)
  have BO := Lib.hid (BO.out.stays hbx)
  have R12 := Lib.hid (R10.out.trans (hbx.mono hz_x9))
  have hz_y11 := R12.out.size
  clear hb hbx  R10 hz_x9
  have kS_0 : y11.cell? ⟨s_, 0, none⟩ = some (.int .i64 cn) := BS.out.cell 0
  have kS_1 : y11.cell? ⟨s_, 1, none⟩ = some (.int .i64 at_) := BS.out.cell 1
  have kS_2 : y11.cell? ⟨s_, 2, none⟩ = some (.int .i64 lo) := BS.out.cell 2
  have kS_3 : y11.cell? ⟨s_, 3, none⟩ = some (.int .i64 hi) := BS.out.cell 3
  have kS_4 : y11.cell? ⟨s_, 4, none⟩ = some (.int .i64 pp) := BS.out.cell 4
  have kS_5 : y11.cell? ⟨s_, 5, none⟩ = some (.int .i64 le) := BS.out.cell 5
  have kS_6 : y11.cell? ⟨s_, 6, none⟩ = some (.int .i64 re) := BS.out.cell 6
  have kU_0 : y11.cell? ⟨u_, 0, none⟩ = some (.int .i64 ol) := BU.out.cell 0
  have kU_1 : y11.cell? ⟨u_, 1, none⟩ = some (.int .i64 oh) := BU.out.cell 1
  have cH := BH.out.cell
  have zH := BH.out.frozen
  go_wp2
  clear zH cH
  clear kS_0 kS_1 kS_2 kS_3 kS_4 kS_5 kS_6 kU_0 kU_1
  generalize hwd : World.setCell _ ⟨h_, 5, none⟩ _ = wd
  have hwd2 : stores y11 h_ [.int .i64 a, .int .i64 x, .int .i64 y, .int .i64 pp, .int .i64 0, .int .i64 0] 0 = wd := hwd
  have D1 : Blk wd h_ 39 #[.int .i64 a, .int .i64 x, .int .i64 y, .int .i64 pp, .int .i64 0, .int .i64 0] := by rw [← hwd2]; exact BH.out.filled _ rfl
  have RD : Below w.heap.size w wd := by rw [← hwd2]; exact Below.stores (by omega) _ _ _ R12.out
  clear hwd hwd2
  have d1_0 : wd.cell? ⟨h_, 0, none⟩ = some (.int .i64 a) := D1.cell 0
  have d1_1 : wd.cell? ⟨h_, 1, none⟩ = some (.int .i64 x) := D1.cell 1
  have d1_2 : wd.cell? ⟨h_, 2, none⟩ = some (.int .i64 y) := D1.cell 2
  have d1_3 : wd.cell? ⟨h_, 3, none⟩ = some (.int .i64 pp) := D1.cell 3
  have d1_4 : wd.cell? ⟨h_, 4, none⟩ = some (.int .i64 0) := D1.cell 4
  have d1_5 : wd.cell? ⟨h_, 5, none⟩ = some (.int .i64 0) := D1.cell 5
  try go_wp2_with fail
  refine bodyPost_ret (v := .tuple #[.agg #[.int .i64 a, .int .i64 x, .int .i64 y, .int .i64 pp, .int .i64 0, .int .i64 0], .int .i64 0]) (by simp [results, Try.results43, go_sem, *]) rfl ⟨rfl, RD⟩
set_option maxRecDepth 100000 in
set_option maxHeartbeats 4000000 in
theorem refWake_1 (cn at_ lo hi pp le re ol oh a : Int) (w : World) (h1 : ¬ knE at_ lo hi pp le re = 0) : Calls Try.prog 44 #[.agg #[.int .i64 cn, .int .i64 at_, .int .i64 lo, .int .i64 hi, .int .i64 pp, .int .i64 le, .int .i64 re], .agg #[.int .i64 ol, .int .i64 oh], .int .i64 a] w fun e w' => e = .returned (.tuple #[.agg #[.int .i64 0, .int .i64 0, .int .i64 0, .int .i64 0, .int .i64 0, .int .i64 0], .int .i64 (knE at_ lo hi pp le re)]) ∧ Below w.heap.size w w' := by
  obtain ⟨er, her⟩ : ∃ er, knE at_ lo hi pp le re = er := ⟨_, rfl⟩
  rw [her] at h1 ⊢
  have HE := Lib.hid her
  have hne : (er != 0) = true := by simpa using h1
  clear her h1
  go_enter Try.func44, Try.ntmps44
  go_upto_region 1 with fail
  obtain ⟨x1, s_, u_, h_, ex1, es_, eu_, eh_⟩ : ∃ x1 s_ u_ h_, x1 = ((w.alloc (.cells #[.int .i64 cn, .int .i64 at_, .int .i64 lo, .int .i64 hi, .int .i64 pp, .int .i64 le, .int .i64 re] 41)).alloc (.cells #[.int .i64 ol, .int .i64 oh] 37)).alloc (.cells #[.int .i64 0, .int .i64 0, .int .i64 0, .int .i64 0, .int .i64 0, .int .i64 0] 39) ∧ s_ = w.heap.size ∧ u_ = w.heap.size + 1 ∧ h_ = w.heap.size + 1 + 1 := ⟨_, _, _, _, rfl, rfl, rfl, rfl⟩
  rw [← ex1, ← eh_, ← eu_, ← es_]
  have hbx : Below w.heap.size w x1 := by rw [ex1]; exact below_alloc3 _ _ _ _ 
  have o_S_U : s_ < u_ := by omega
  have o_U_H : u_ < h_ := by omega
  have g_S : w.heap.size ≤ s_ := by rw [es_]; exact Nat.le_refl _
  have BS := Lib.hid (show Blk x1 s_ 41 #[.int .i64 cn, .int .i64 at_, .int .i64 lo, .int .i64 hi, .int .i64 pp, .int .i64 le, .int .i64 re] by rw [ex1, es_]; exact blk_new3_0 _ _ _ _ _ _ _ )
  have BU := Lib.hid (show Blk x1 u_ 37 #[.int .i64 ol, .int .i64 oh] by rw [ex1, eu_]; exact blk_new3_1 _ _ _ _ _ _ _ )
  have BH := Lib.hid (show Blk x1 h_ 39 #[.int .i64 0, .int .i64 0, .int .i64 0, .int .i64 0, .int .i64 0, .int .i64 0] by rw [ex1, eh_]; exact blk_new3_2 _ _ _ _ _ _ _ )
  have R2 := Lib.hid hbx
  have hz_x1 := R2.out.size
  clear hbx ex1 es_ eu_ eh_
  have kS_0 : x1.cell? ⟨s_, 0, none⟩ = some (.int .i64 cn) := BS.out.cell 0
  have kS_1 : x1.cell? ⟨s_, 1, none⟩ = some (.int .i64 at_) := BS.out.cell 1
  have kS_2 : x1.cell? ⟨s_, 2, none⟩ = some (.int .i64 lo) := BS.out.cell 2
  have kS_3 : x1.cell? ⟨s_, 3, none⟩ = some (.int .i64 hi) := BS.out.cell 3
  have kS_4 : x1.cell? ⟨s_, 4, none⟩ = some (.int .i64 pp) := BS.out.cell 4
  have kS_5 : x1.cell? ⟨s_, 5, none⟩ = some (.int .i64 le) := BS.out.cell 5
  have kS_6 : x1.cell? ⟨s_, 6, none⟩ = some (.int .i64 re) := BS.out.cell 6
  have kU_0 : x1.cell? ⟨u_, 0, none⟩ = some (.int .i64 ol) := BU.out.cell 0
  have kU_1 : x1.cell? ⟨u_, 1, none⟩ = some (.int .i64 oh) := BU.out.cell 1
  go_wp2_with fail
  refine (refKnownV at_ lo hi pp le re _).mono ?_
  rintro e y3 ⟨rfl, hb⟩
  clear kS_0 kS_1 kS_2 kS_3 kS_4 kS_5 kS_6 kU_0 kU_1
  have hbx : Below x1.heap.size x1 y3 := below_via (by go_grown) hb (by first | (simp; done) | (simp; omega))
  have BS := Lib.hid (BS.out.stays hbx)
  have BU := Lib.hid (BU.out.stays hbx)
  have BH := Lib.hid (BH.out.stays hbx)
  have R4 := Lib.hid (R2.out.trans (hbx.mono hz_x1))
  have hz_y3 := R4.out.size
  clear hb hbx  R2 hz_x1
  rw [HE.out]
  have kS_0 : y3.cell? ⟨s_, 0, none⟩ = some (.int .i64 cn) := BS.out.cell 0
  have kS_1 : y3.cell? ⟨s_, 1, none⟩ = some (.int .i64 at_) := BS.out.cell 1
  have kS_2 : y3.cell? ⟨s_, 2, none⟩ = some (.int .i64 lo) := BS.out.cell 2
  have kS_3 : y3.cell? ⟨s_, 3, none⟩ = some (.int .i64 hi) := BS.out.cell 3
  have kS_4 : y3.cell? ⟨s_, 4, none⟩ = some (.int .i64 pp) := BS.out.cell 4
  have kS_5 : y3.cell? ⟨s_, 5, none⟩ = some (.int .i64 le) := BS.out.cell 5
  have kS_6 : y3.cell? ⟨s_, 6, none⟩ = some (.int .i64 re) := BS.out.cell 6
  have kU_0 : y3.cell? ⟨u_, 0, none⟩ = some (.int .i64 ol) := BU.out.cell 0
  have kU_1 : y3.cell? ⟨u_, 1, none⟩ = some (.int .i64 oh) := BU.out.cell 1
  have cH := BH.out.cell
  have zH := BH.out.frozen
  go_wp2
  clear zH cH
  clear kS_0 kS_1 kS_2 kS_3 kS_4 kS_5 kS_6 kU_0 kU_1
  generalize hwd : World.setCell _ ⟨h_, 5, none⟩ _ = wd
  have hwd2 : stores y3 h_ [.int .i64 0, .int .i64 0, .int .i64 0, .int .i64 0, .int .i64 0, .int .i64 0] 0 = wd := hwd
  have D1 : Blk wd h_ 39 #[.int .i64 0, .int .i64 0, .int .i64 0, .int .i64 0, .int .i64 0, .int .i64 0] := by rw [← hwd2]; exact BH.out.filled _ rfl
  have RD : Below w.heap.size w wd := by rw [← hwd2]; exact Below.stores (by omega) _ _ _ R4.out
  clear hwd hwd2
  have d1_0 : wd.cell? ⟨h_, 0, none⟩ = some (.int .i64 0) := D1.cell 0
  have d1_1 : wd.cell? ⟨h_, 1, none⟩ = some (.int .i64 0) := D1.cell 1
  have d1_2 : wd.cell? ⟨h_, 2, none⟩ = some (.int .i64 0) := D1.cell 2
  have d1_3 : wd.cell? ⟨h_, 3, none⟩ = some (.int .i64 0) := D1.cell 3
  have d1_4 : wd.cell? ⟨h_, 4, none⟩ = some (.int .i64 0) := D1.cell 4
  have d1_5 : wd.cell? ⟨h_, 5, none⟩ = some (.int .i64 0) := D1.cell 5
  try go_wp2_with fail
  refine bodyPost_ret (v := .tuple #[.agg #[.int .i64 0, .int .i64 0, .int .i64 0, .int .i64 0, .int .i64 0, .int .i64 0], .int .i64 er]) (by simp [results, Try.results44, go_sem, *]) rfl ⟨rfl, RD⟩
set_option maxRecDepth 100000 in
set_option maxHeartbeats 4000000 in
theorem refWake_2 (cn at_ lo hi pp le re ol oh a : Int) (w : World) (h1 : knE at_ lo hi pp le re = 0) (h2 : ¬ spanOk ol oh) : Calls Try.prog 44 #[.agg #[.int .i64 cn, .int .i64 at_, .int .i64 lo, .int .i64 hi, .int .i64 pp, .int .i64 le, .int .i64 re], .agg #[.int .i64 ol, .int .i64 oh], .int .i64 a] w fun e w' => e = .returned (.tuple #[.agg #[.int .i64 0, .int .i64 0, .int .i64 0, .int .i64 0, .int .i64 0, .int .i64 0], .int .i64 3]) ∧ Below w.heap.size w w' := by
  have HE := Lib.hid h1
  have HS := Lib.hid (kn_span at_ lo hi pp le re h1)
  have HK := Lib.hid (kn_begin at_ lo hi pp le re h1)
  clear h1
  have d2 : decide (spanOk ol oh) = false := decide_eq_false h2
  clear h2
  go_enter Try.func44, Try.ntmps44
  go_upto_region 1 with fail
  obtain ⟨x1, s_, u_, h_, ex1, es_, eu_, eh_⟩ : ∃ x1 s_ u_ h_, x1 = ((w.alloc (.cells #[.int .i64 cn, .int .i64 at_, .int .i64 lo, .int .i64 hi, .int .i64 pp, .int .i64 le, .int .i64 re] 41)).alloc (.cells #[.int .i64 ol, .int .i64 oh] 37)).alloc (.cells #[.int .i64 0, .int .i64 0, .int .i64 0, .int .i64 0, .int .i64 0, .int .i64 0] 39) ∧ s_ = w.heap.size ∧ u_ = w.heap.size + 1 ∧ h_ = w.heap.size + 1 + 1 := ⟨_, _, _, _, rfl, rfl, rfl, rfl⟩
  rw [← ex1, ← eh_, ← eu_, ← es_]
  have hbx : Below w.heap.size w x1 := by rw [ex1]; exact below_alloc3 _ _ _ _ 
  have o_S_U : s_ < u_ := by omega
  have o_U_H : u_ < h_ := by omega
  have g_S : w.heap.size ≤ s_ := by rw [es_]; exact Nat.le_refl _
  have BS := Lib.hid (show Blk x1 s_ 41 #[.int .i64 cn, .int .i64 at_, .int .i64 lo, .int .i64 hi, .int .i64 pp, .int .i64 le, .int .i64 re] by rw [ex1, es_]; exact blk_new3_0 _ _ _ _ _ _ _ )
  have BU := Lib.hid (show Blk x1 u_ 37 #[.int .i64 ol, .int .i64 oh] by rw [ex1, eu_]; exact blk_new3_1 _ _ _ _ _ _ _ )
  have BH := Lib.hid (show Blk x1 h_ 39 #[.int .i64 0, .int .i64 0, .int .i64 0, .int .i64 0, .int .i64 0, .int .i64 0] by rw [ex1, eh_]; exact blk_new3_2 _ _ _ _ _ _ _ )
  have R2 := Lib.hid hbx
  have hz_x1 := R2.out.size
  clear hbx ex1 es_ eu_ eh_
  have kS_0 : x1.cell? ⟨s_, 0, none⟩ = some (.int .i64 cn) := BS.out.cell 0
  have kS_1 : x1.cell? ⟨s_, 1, none⟩ = some (.int .i64 at_) := BS.out.cell 1
  have kS_2 : x1.cell? ⟨s_, 2, none⟩ = some (.int .i64 lo) := BS.out.cell 2
  have kS_3 : x1.cell? ⟨s_, 3, none⟩ = some (.int .i64 hi) := BS.out.cell 3
  have kS_4 : x1.cell? ⟨s_, 4, none⟩ = some (.int .i64 pp) := BS.out.cell 4
  have kS_5 : x1.cell? ⟨s_, 5, none⟩ = some (.int .i64 le) := BS.out.cell 5
  have kS_6 : x1.cell? ⟨s_, 6, none⟩ = some (.int .i64 re) := BS.out.cell 6
  have kU_0 : x1.cell? ⟨u_, 0, none⟩ = some (.int .i64 ol) := BU.out.cell 0
  have kU_1 : x1.cell? ⟨u_, 1, none⟩ = some (.int .i64 oh) := BU.out.cell 1
  go_wp2_with fail
  refine (refKnownV at_ lo hi pp le re _).mono ?_
  rintro e y3 ⟨rfl, hb⟩
  clear kS_0 kS_1 kS_2 kS_3 kS_4 kS_5 kS_6 kU_0 kU_1
  have hbx : Below x1.heap.size x1 y3 := below_via (by go_grown) hb (by first | (simp; done) | (simp; omega))
  have BS := Lib.hid (BS.out.stays hbx)
  have BU := Lib.hid (BU.out.stays hbx)
  have BH := Lib.hid (BH.out.stays hbx)
  have R4 := Lib.hid (R2.out.trans (hbx.mono hz_x1))
  have hz_y3 := R4.out.size
  clear hb hbx  R2 hz_x1
  rw [HE.out]
  have kS_0 : y3.cell? ⟨s_, 0, none⟩ = some (.int .i64 cn) := BS.out.cell 0
  have kS_1 : y3.cell? ⟨s_, 1, none⟩ = some (.int .i64 at_) := BS.out.cell 1
  have kS_2 : y3.cell? ⟨s_, 2, none⟩ = some (.int .i64 lo) := BS.out.cell 2
  have kS_3 : y3.cell? ⟨s_, 3, none⟩ = some (.int .i64 hi) := BS.out.cell 3
  have kS_4 : y3.cell? ⟨s_, 4, none⟩ = some (.int .i64 pp) := BS.out.cell 4
  have kS_5 : y3.cell? ⟨s_, 5, none⟩ = some (.int .i64 le) := BS.out.cell 5
  have kS_6 : y3.cell? ⟨s_, 6, none⟩ = some (.int .i64 re) := BS.out.cell 6
  have kU_0 : y3.cell? ⟨u_, 0, none⟩ = some (.int .i64 ol) := BU.out.cell 0
  have kU_1 : y3.cell? ⟨u_, 1, none⟩ = some (.int .i64 oh) := BU.out.cell 1
  go_wp2_with fail
  refine (refSpanV ol oh _).mono ?_
  rintro e y5 ⟨rfl, hb⟩
  clear kS_0 kS_1 kS_2 kS_3 kS_4 kS_5 kS_6 kU_0 kU_1
  have hbx : Below y3.heap.size y3 y5 := below_via (by go_grown) hb (by first | (simp; done) | (simp; omega))
  have BS := Lib.hid (BS.out.stays hbx)
  have BU := Lib.hid (BU.out.stays hbx)
  have BH := Lib.hid (BH.out.stays hbx)
  have R6 := Lib.hid (R4.out.trans (hbx.mono hz_y3))
  have hz_y5 := R6.out.size
  clear hb hbx  R4 hz_y3
  rw [d2]
  have kS_0 : y5.cell? ⟨s_, 0, none⟩ = some (.int .i64 cn) := BS.out.cell 0
  have kS_1 : y5.cell? ⟨s_, 1, none⟩ = some (.int .i64 at_) := BS.out.cell 1
  have kS_2 : y5.cell? ⟨s_, 2, none⟩ = some (.int .i64 lo) := BS.out.cell 2
  have kS_3 : y5.cell? ⟨s_, 3, none⟩ = some (.int .i64 hi) := BS.out.cell 3
  have kS_4 : y5.cell? ⟨s_, 4, none⟩ = some (.int .i64 pp) := BS.out.cell 4
  have kS_5 : y5.cell? ⟨s_, 5, none⟩ = some (.int .i64 le) := BS.out.cell 5
  have kS_6 : y5.cell? ⟨s_, 6, none⟩ = some (.int .i64 re) := BS.out.cell 6
  have kU_0 : y5.cell? ⟨u_, 0, none⟩ = some (.int .i64 ol) := BU.out.cell 0
  have kU_1 : y5.cell? ⟨u_, 1, none⟩ = some (.int .i64 oh) := BU.out.cell 1
  have cH := BH.out.cell
  have zH := BH.out.frozen
  go_wp2
  clear zH cH
  clear kS_0 kS_1 kS_2 kS_3 kS_4 kS_5 kS_6 kU_0 kU_1
  generalize hwd : World.setCell _ ⟨h_, 5, none⟩ _ = wd
  have hwd2 : stores y5 h_ [.int .i64 0, .int .i64 0, .int .i64 0, .int .i64 0, .int .i64 0, .int .i64 0] 0 = wd := hwd
  have D1 : Blk wd h_ 39 #[.int .i64 0, .int .i64 0, .int .i64 0, .int .i64 0, .int .i64 0, .int .i64 0] := by rw [← hwd2]; exact BH.out.filled _ rfl
  have RD : Below w.heap.size w wd := by rw [← hwd2]; exact Below.stores (by omega) _ _ _ R6.out
  clear hwd hwd2
  have d1_0 : wd.cell? ⟨h_, 0, none⟩ = some (.int .i64 0) := D1.cell 0
  have d1_1 : wd.cell? ⟨h_, 1, none⟩ = some (.int .i64 0) := D1.cell 1
  have d1_2 : wd.cell? ⟨h_, 2, none⟩ = some (.int .i64 0) := D1.cell 2
  have d1_3 : wd.cell? ⟨h_, 3, none⟩ = some (.int .i64 0) := D1.cell 3
  have d1_4 : wd.cell? ⟨h_, 4, none⟩ = some (.int .i64 0) := D1.cell 4
  have d1_5 : wd.cell? ⟨h_, 5, none⟩ = some (.int .i64 0) := D1.cell 5
  try go_wp2_with fail
  refine bodyPost_ret (v := .tuple #[.agg #[.int .i64 0, .int .i64 0, .int .i64 0, .int .i64 0, .int .i64 0, .int .i64 0], .int .i64 3]) (by simp [results, Try.results44, go_sem, *]) rfl ⟨rfl, RD⟩
set_option maxRecDepth 100000 in
set_option maxHeartbeats 4000000 in
theorem refWake_3 (cn at_ lo hi pp le re ol oh a : Int) (w : World) (h1 : knE at_ lo hi pp le re = 0) (h2 : spanOk ol oh) (h3 : ¬ 0 ≤ ol) : Calls Try.prog 44 #[.agg #[.int .i64 cn, .int .i64 at_, .int .i64 lo, .int .i64 hi, .int .i64 pp, .int .i64 le, .int .i64 re], .agg #[.int .i64 ol, .int .i64 oh], .int .i64 a] w fun e w' => e = .returned (.tuple #[.agg #[.int .i64 0, .int .i64 0, .int .i64 0, .int .i64 0, .int .i64 0, .int .i64 0], .int .i64 4]) ∧ Below w.heap.size w w' := by
  have HE := Lib.hid h1
  have HS := Lib.hid (kn_span at_ lo hi pp le re h1)
  have HK := Lib.hid (kn_begin at_ lo hi pp le re h1)
  clear h1
  have d2 : decide (spanOk ol oh) = true := decide_eq_true h2
  have H2 := Lib.hid h2
  clear h2
  have d3 : ol < 0 := by omega
  clear h3
  go_enter Try.func44, Try.ntmps44
  go_upto_region 1 with fail
  obtain ⟨x1, s_, u_, h_, ex1, es_, eu_, eh_⟩ : ∃ x1 s_ u_ h_, x1 = ((w.alloc (.cells #[.int .i64 cn, .int .i64 at_, .int .i64 lo, .int .i64 hi, .int .i64 pp, .int .i64 le, .int .i64 re] 41)).alloc (.cells #[.int .i64 ol, .int .i64 oh] 37)).alloc (.cells #[.int .i64 0, .int .i64 0, .int .i64 0, .int .i64 0, .int .i64 0, .int .i64 0] 39) ∧ s_ = w.heap.size ∧ u_ = w.heap.size + 1 ∧ h_ = w.heap.size + 1 + 1 := ⟨_, _, _, _, rfl, rfl, rfl, rfl⟩
  rw [← ex1, ← eh_, ← eu_, ← es_]
  have hbx : Below w.heap.size w x1 := by rw [ex1]; exact below_alloc3 _ _ _ _ 
  have o_S_U : s_ < u_ := by omega
  have o_U_H : u_ < h_ := by omega
  have g_S : w.heap.size ≤ s_ := by rw [es_]; exact Nat.le_refl _
  have BS := Lib.hid (show Blk x1 s_ 41 #[.int .i64 cn, .int .i64 at_, .int .i64 lo, .int .i64 hi, .int .i64 pp, .int .i64 le, .int .i64 re] by rw [ex1, es_]; exact blk_new3_0 _ _ _ _ _ _ _ )
  have BU := Lib.hid (show Blk x1 u_ 37 #[.int .i64 ol, .int .i64 oh] by rw [ex1, eu_]; exact blk_new3_1 _ _ _ _ _ _ _ )
  have BH := Lib.hid (show Blk x1 h_ 39 #[.int .i64 0, .int .i64 0, .int .i64 0, .int .i64 0, .int .i64 0, .int .i64 0] by rw [ex1, eh_]; exact blk_new3_2 _ _ _ _ _ _ _ )
  have R2 := Lib.hid hbx
  have hz_x1 := R2.out.size
  clear hbx ex1 es_ eu_ eh_
  have kS_0 : x1.cell? ⟨s_, 0, none⟩ = some (.int .i64 cn) := BS.out.cell 0
  have kS_1 : x1.cell? ⟨s_, 1, none⟩ = some (.int .i64 at_) := BS.out.cell 1
  have kS_2 : x1.cell? ⟨s_, 2, none⟩ = some (.int .i64 lo) := BS.out.cell 2
  have kS_3 : x1.cell? ⟨s_, 3, none⟩ = some (.int .i64 hi) := BS.out.cell 3
  have kS_4 : x1.cell? ⟨s_, 4, none⟩ = some (.int .i64 pp) := BS.out.cell 4
  have kS_5 : x1.cell? ⟨s_, 5, none⟩ = some (.int .i64 le) := BS.out.cell 5
  have kS_6 : x1.cell? ⟨s_, 6, none⟩ = some (.int .i64 re) := BS.out.cell 6
  have kU_0 : x1.cell? ⟨u_, 0, none⟩ = some (.int .i64 ol) := BU.out.cell 0
  have kU_1 : x1.cell? ⟨u_, 1, none⟩ = some (.int .i64 oh) := BU.out.cell 1
  go_wp2_with fail
  refine (refKnownV at_ lo hi pp le re _).mono ?_
  rintro e y3 ⟨rfl, hb⟩
  clear kS_0 kS_1 kS_2 kS_3 kS_4 kS_5 kS_6 kU_0 kU_1
  have hbx : Below x1.heap.size x1 y3 := below_via (by go_grown) hb (by first | (simp; done) | (simp; omega))
  have BS := Lib.hid (BS.out.stays hbx)
  have BU := Lib.hid (BU.out.stays hbx)
  have BH := Lib.hid (BH.out.stays hbx)
  have R4 := Lib.hid (R2.out.trans (hbx.mono hz_x1))
  have hz_y3 := R4.out.size
  clear hb hbx  R2 hz_x1
  rw [HE.out]
  have kS_0 : y3.cell? ⟨s_, 0, none⟩ = some (.int .i64 cn) := BS.out.cell 0
  have kS_1 : y3.cell? ⟨s_, 1, none⟩ = some (.int .i64 at_) := BS.out.cell 1
  have kS_2 : y3.cell? ⟨s_, 2, none⟩ = some (.int .i64 lo) := BS.out.cell 2
  have kS_3 : y3.cell? ⟨s_, 3, none⟩ = some (.int .i64 hi) := BS.out.cell 3
  have kS_4 : y3.cell? ⟨s_, 4, none⟩ = some (.int .i64 pp) := BS.out.cell 4
  have kS_5 : y3.cell? ⟨s_, 5, none⟩ = some (.int .i64 le) := BS.out.cell 5
  have kS_6 : y3.cell? ⟨s_, 6, none⟩ = some (.int .i64 re) := BS.out.cell 6
  have kU_0 : y3.cell? ⟨u_, 0, none⟩ = some (.int .i64 ol) := BU.out.cell 0
  have kU_1 : y3.cell? ⟨u_, 1, none⟩ = some (.int .i64 oh) := BU.out.cell 1
  go_wp2_with fail
  refine (refSpanV ol oh _).mono ?_
  rintro e y5 ⟨rfl, hb⟩
  clear kS_0 kS_1 kS_2 kS_3 kS_4 kS_5 kS_6 kU_0 kU_1
  have hbx : Below y3.heap.size y3 y5 := below_via (by go_grown) hb (by first | (simp; done) | (simp; omega))
  have BS := Lib.hid (BS.out.stays hbx)
  have BU := Lib.hid (BU.out.stays hbx)
  have BH := Lib.hid (BH.out.stays hbx)
  have R6 := Lib.hid (R4.out.trans (hbx.mono hz_y3))
  have hz_y5 := R6.out.size
  clear hb hbx  R4 hz_y3
  rw [d2]
  have kS_0 : y5.cell? ⟨s_, 0, none⟩ = some (.int .i64 cn) := BS.out.cell 0
  have kS_1 : y5.cell? ⟨s_, 1, none⟩ = some (.int .i64 at_) := BS.out.cell 1
  have kS_2 : y5.cell? ⟨s_, 2, none⟩ = some (.int .i64 lo) := BS.out.cell 2
  have kS_3 : y5.cell? ⟨s_, 3, none⟩ = some (.int .i64 hi) := BS.out.cell 3
  have kS_4 : y5.cell? ⟨s_, 4, none⟩ = some (.int .i64 pp) := BS.out.cell 4
  have kS_5 : y5.cell? ⟨s_, 5, none⟩ = some (.int .i64 le) := BS.out.cell 5
  have kS_6 : y5.cell? ⟨s_, 6, none⟩ = some (.int .i64 re) := BS.out.cell 6
  have kU_0 : y5.cell? ⟨u_, 0, none⟩ = some (.int .i64 ol) := BU.out.cell 0
  have kU_1 : y5.cell? ⟨u_, 1, none⟩ = some (.int .i64 oh) := BU.out.cell 1
  have cH := BH.out.cell
  have zH := BH.out.frozen
  go_wp2
  clear zH cH
  clear kS_0 kS_1 kS_2 kS_3 kS_4 kS_5 kS_6 kU_0 kU_1
  generalize hwd : World.setCell _ ⟨h_, 5, none⟩ _ = wd
  have hwd2 : stores y5 h_ [.int .i64 0, .int .i64 0, .int .i64 0, .int .i64 0, .int .i64 0, .int .i64 0] 0 = wd := hwd
  have D1 : Blk wd h_ 39 #[.int .i64 0, .int .i64 0, .int .i64 0, .int .i64 0, .int .i64 0, .int .i64 0] := by rw [← hwd2]; exact BH.out.filled _ rfl
  have RD : Below w.heap.size w wd := by rw [← hwd2]; exact Below.stores (by omega) _ _ _ R6.out
  clear hwd hwd2
  have d1_0 : wd.cell? ⟨h_, 0, none⟩ = some (.int .i64 0) := D1.cell 0
  have d1_1 : wd.cell? ⟨h_, 1, none⟩ = some (.int .i64 0) := D1.cell 1
  have d1_2 : wd.cell? ⟨h_, 2, none⟩ = some (.int .i64 0) := D1.cell 2
  have d1_3 : wd.cell? ⟨h_, 3, none⟩ = some (.int .i64 0) := D1.cell 3
  have d1_4 : wd.cell? ⟨h_, 4, none⟩ = some (.int .i64 0) := D1.cell 4
  have d1_5 : wd.cell? ⟨h_, 5, none⟩ = some (.int .i64 0) := D1.cell 5
  try go_wp2_with fail
  refine bodyPost_ret (v := .tuple #[.agg #[.int .i64 0, .int .i64 0, .int .i64 0, .int .i64 0, .int .i64 0, .int .i64 0], .int .i64 4]) (by simp [results, Try.results44, go_sem, *]) rfl ⟨rfl, RD⟩
set_option maxRecDepth 100000 in
set_option maxHeartbeats 4000000 in
theorem refWake_4 (cn at_ lo hi pp le re ol oh a : Int) (w : World) (h1 : knE at_ lo hi pp le re = 0) (h2 : spanOk ol oh) (h3 : 0 ≤ ol) (h4 : ¬ tickOk a) : Calls Try.prog 44 #[.agg #[.int .i64 cn, .int .i64 at_, .int .i64 lo, .int .i64 hi, .int .i64 pp, .int .i64 le, .int .i64 re], .agg #[.int .i64 ol, .int .i64 oh], .int .i64 a] w fun e w' => e = .returned (.tuple #[.agg #[.int .i64 0, .int .i64 0, .int .i64 0, .int .i64 0, .int .i64 0, .int .i64 0], .int .i64 4]) ∧ Below w.heap.size w w' := by
  have HE := Lib.hid h1
  have HS := Lib.hid (kn_span at_ lo hi pp le re h1)
  have HK := Lib.hid (kn_begin at_ lo hi pp le re h1)
  clear h1
  have d2 : decide (spanOk ol oh) = true := decide_eq_true h2
  have H2 := Lib.hid h2
  clear h2
  have d3 : ¬ ol < 0 := by omega
  clear h3
  have d4 : decide (tickOk a) = false := decide_eq_false h4
  clear h4
  go_enter Try.func44, Try.ntmps44
  go_upto_region 1 with fail
  obtain ⟨x1, s_, u_, h_, ex1, es_, eu_, eh_⟩ : ∃ x1 s_ u_ h_, x1 = ((w.alloc (.cells #[.int .i64 cn, .int .i64 at_, .int .i64 lo, .int .i64 hi, .int .i64 pp, .int .i64 le, .int .i64 re] 41)).alloc (.cells #[.int .i64 ol, .int .i64 oh] 37)).alloc (.cells #[.int .i64 0, .int .i64 0, .int .i64 0, .int .i64 0, .int .i64 0, .int .i64 0] 39) ∧ s_ = w.heap.size ∧ u_ = w.heap.size + 1 ∧ h_ = w.heap.size + 1 + 1 := ⟨_, _, _, _, rfl, rfl, rfl, rfl⟩
  rw [← ex1, ← eh_, ← eu_, ← es_]
  have hbx : Below w.heap.size w x1 := by rw [ex1]; exact below_alloc3 _ _ _ _ 
  have o_S_U : s_ < u_ := by omega
  have o_U_H : u_ < h_ := by omega
  have g_S : w.heap.size ≤ s_ := by rw [es_]; exact Nat.le_refl _
  have BS := Lib.hid (show Blk x1 s_ 41 #[.int .i64 cn, .int .i64 at_, .int .i64 lo, .int .i64 hi, .int .i64 pp, .int .i64 le, .int .i64 re] by rw [ex1, es_]; exact blk_new3_0 _ _ _ _ _ _ _ )
  have BU := Lib.hid (show Blk x1 u_ 37 #[.int .i64 ol, .int .i64 oh] by rw [ex1, eu_]; exact blk_new3_1 _ _ _ _ _ _ _ )
  have BH := Lib.hid (show Blk x1 h_ 39 #[.int .i64 0, .int .i64 0, .int .i64 0, .int .i64 0, .int .i64 0, .int .i64 0] by rw [ex1, eh_]; exact blk_new3_2 _ _ _ _ _ _ _ )
  have R2 := Lib.hid hbx
  have hz_x1 := R2.out.size
  clear hbx ex1 es_ eu_ eh_
  have kS_0 : x1.cell? ⟨s_, 0, none⟩ = some (.int .i64 cn) := BS.out.cell 0
  have kS_1 : x1.cell? ⟨s_, 1, none⟩ = some (.int .i64 at_) := BS.out.cell 1
  have kS_2 : x1.cell? ⟨s_, 2, none⟩ = some (.int .i64 lo) := BS.out.cell 2
  have kS_3 : x1.cell? ⟨s_, 3, none⟩ = some (.int .i64 hi) := BS.out.cell 3
  have kS_4 : x1.cell? ⟨s_, 4, none⟩ = some (.int .i64 pp) := BS.out.cell 4
  have kS_5 : x1.cell? ⟨s_, 5, none⟩ = some (.int .i64 le) := BS.out.cell 5
  have kS_6 : x1.cell? ⟨s_, 6, none⟩ = some (.int .i64 re) := BS.out.cell 6
  have kU_0 : x1.cell? ⟨u_, 0, none⟩ = some (.int .i64 ol) := BU.out.cell 0
  have kU_1 : x1.cell? ⟨u_, 1, none⟩ = some (.int .i64 oh) := BU.out.cell 1
  go_wp2_with fail
  refine (refKnownV at_ lo hi pp le re _).mono ?_
  rintro e y3 ⟨rfl, hb⟩
  clear kS_0 kS_1 kS_2 kS_3 kS_4 kS_5 kS_6 kU_0 kU_1
  have hbx : Below x1.heap.size x1 y3 := below_via (by go_grown) hb (by first | (simp; done) | (simp; omega))
  have BS := Lib.hid (BS.out.stays hbx)
  have BU := Lib.hid (BU.out.stays hbx)
  have BH := Lib.hid (BH.out.stays hbx)
  have R4 := Lib.hid (R2.out.trans (hbx.mono hz_x1))
  have hz_y3 := R4.out.size
  clear hb hbx  R2 hz_x1
  rw [HE.out]
  have kS_0 : y3.cell? ⟨s_, 0, none⟩ = some (.int .i64 cn) := BS.out.cell 0
  have kS_1 : y3.cell? ⟨s_, 1, none⟩ = some (.int .i64 at_) := BS.out.cell 1
  have kS_2 : y3.cell? ⟨s_, 2, none⟩ = some (.int .i64 lo) := BS.out.cell 2
  have kS_3 : y3.cell? ⟨s_, 3, none⟩ = some (.int .i64 hi) := BS.out.cell 3
  have kS_4 : y3.cell? ⟨s_, 4, none⟩ = some (.int .i64 pp) := BS.out.cell 4
  have kS_5 : y3.cell? ⟨s_, 5, none⟩ = some (.int .i64 le) := BS.out.cell 5
  have kS_6 : y3.cell? ⟨s_, 6, none⟩ = some (.int .i64 re) := BS.out.cell 6
  have kU_0 : y3.cell? ⟨u_, 0, none⟩ = some (.int .i64 ol) := BU.out.cell 0
  have kU_1 : y3.cell? ⟨u_, 1, none⟩ = some (.int .i64 oh) := BU.out.cell 1
  go_wp2_with fail
  refine (refSpanV ol oh _).mono ?_
  rintro e y5 ⟨rfl, hb⟩
  clear kS_0 kS_1 kS_2 kS_3 kS_4 kS_5 kS_6 kU_0 kU_1
  have hbx : Below y3.heap.size y3 y5 := below_via (by go_grown) hb (by first | (simp; done) | (simp; omega))
  have BS := Lib.hid (BS.out.stays hbx)
  have BU := Lib.hid (BU.out.stays hbx)
  have BH := Lib.hid (BH.out.stays hbx)
  have R6 := Lib.hid (R4.out.trans (hbx.mono hz_y3))
  have hz_y5 := R6.out.size
  clear hb hbx  R4 hz_y3
  rw [d2]
  have kS_0 : y5.cell? ⟨s_, 0, none⟩ = some (.int .i64 cn) := BS.out.cell 0
  have kS_1 : y5.cell? ⟨s_, 1, none⟩ = some (.int .i64 at_) := BS.out.cell 1
  have kS_2 : y5.cell? ⟨s_, 2, none⟩ = some (.int .i64 lo) := BS.out.cell 2
  have kS_3 : y5.cell? ⟨s_, 3, none⟩ = some (.int .i64 hi) := BS.out.cell 3
  have kS_4 : y5.cell? ⟨s_, 4, none⟩ = some (.int .i64 pp) := BS.out.cell 4
  have kS_5 : y5.cell? ⟨s_, 5, none⟩ = some (.int .i64 le) := BS.out.cell 5
  have kS_6 : y5.cell? ⟨s_, 6, none⟩ = some (.int .i64 re) := BS.out.cell 6
  have kU_0 : y5.cell? ⟨u_, 0, none⟩ = some (.int .i64 ol) := BU.out.cell 0
  have kU_1 : y5.cell? ⟨u_, 1, none⟩ = some (.int .i64 oh) := BU.out.cell 1
  go_wp2_with fail
  refine (refTicksV a _).mono ?_
  rintro e q_ ⟨rfl, rfl⟩
  rw [d4]
  clear kS_0 kS_1 kS_2 kS_3 kS_4 kS_5 kS_6 kU_0 kU_1
  have kS_0 : y5.cell? ⟨s_, 0, none⟩ = some (.int .i64 cn) := BS.out.cell 0
  have kS_1 : y5.cell? ⟨s_, 1, none⟩ = some (.int .i64 at_) := BS.out.cell 1
  have kS_2 : y5.cell? ⟨s_, 2, none⟩ = some (.int .i64 lo) := BS.out.cell 2
  have kS_3 : y5.cell? ⟨s_, 3, none⟩ = some (.int .i64 hi) := BS.out.cell 3
  have kS_4 : y5.cell? ⟨s_, 4, none⟩ = some (.int .i64 pp) := BS.out.cell 4
  have kS_5 : y5.cell? ⟨s_, 5, none⟩ = some (.int .i64 le) := BS.out.cell 5
  have kS_6 : y5.cell? ⟨s_, 6, none⟩ = some (.int .i64 re) := BS.out.cell 6
  have kU_0 : y5.cell? ⟨u_, 0, none⟩ = some (.int .i64 ol) := BU.out.cell 0
  have kU_1 : y5.cell? ⟨u_, 1, none⟩ = some (.int .i64 oh) := BU.out.cell 1
  have cH := BH.out.cell
  have zH := BH.out.frozen
  go_wp2
  clear zH cH
  clear kS_0 kS_1 kS_2 kS_3 kS_4 kS_5 kS_6 kU_0 kU_1
  generalize hwd : World.setCell _ ⟨h_, 5, none⟩ _ = wd
  have hwd2 : stores y5 h_ [.int .i64 0, .int .i64 0, .int .i64 0, .int .i64 0, .int .i64 0, .int .i64 0] 0 = wd := hwd
  have D1 : Blk wd h_ 39 #[.int .i64 0, .int .i64 0, .int .i64 0, .int .i64 0, .int .i64 0, .int .i64 0] := by rw [← hwd2]; exact BH.out.filled _ rfl
  have RD : Below w.heap.size w wd := by rw [← hwd2]; exact Below.stores (by omega) _ _ _ R6.out
  clear hwd hwd2
  have d1_0 : wd.cell? ⟨h_, 0, none⟩ = some (.int .i64 0) := D1.cell 0
  have d1_1 : wd.cell? ⟨h_, 1, none⟩ = some (.int .i64 0) := D1.cell 1
  have d1_2 : wd.cell? ⟨h_, 2, none⟩ = some (.int .i64 0) := D1.cell 2
  have d1_3 : wd.cell? ⟨h_, 3, none⟩ = some (.int .i64 0) := D1.cell 3
  have d1_4 : wd.cell? ⟨h_, 4, none⟩ = some (.int .i64 0) := D1.cell 4
  have d1_5 : wd.cell? ⟨h_, 5, none⟩ = some (.int .i64 0) := D1.cell 5
  try go_wp2_with fail
  refine bodyPost_ret (v := .tuple #[.agg #[.int .i64 0, .int .i64 0, .int .i64 0, .int .i64 0, .int .i64 0, .int .i64 0], .int .i64 4]) (by simp [results, Try.results44, go_sem, *]) rfl ⟨rfl, RD⟩
set_option maxRecDepth 100000 in
set_option maxHeartbeats 4000000 in
theorem refWake_5 (cn at_ lo hi pp le re ol oh a : Int) (w : World) (h1 : knE at_ lo hi pp le re = 0) (h2 : spanOk ol oh) (h3 : 0 ≤ ol) (h4 : tickOk a) (h5 : ¬ spanOk (lo + ol) (hi + oh)) : Calls Try.prog 44 #[.agg #[.int .i64 cn, .int .i64 at_, .int .i64 lo, .int .i64 hi, .int .i64 pp, .int .i64 le, .int .i64 re], .agg #[.int .i64 ol, .int .i64 oh], .int .i64 a] w fun e w' => e = .returned (.tuple #[.agg #[.int .i64 0, .int .i64 0, .int .i64 0, .int .i64 0, .int .i64 0, .int .i64 0], .int .i64 4]) ∧ Below w.heap.size w w' := by
  have HE := Lib.hid h1
  have HS := Lib.hid (kn_span at_ lo hi pp le re h1)
  have HK := Lib.hid (kn_begin at_ lo hi pp le re h1)
  clear h1
  have d2 : decide (spanOk ol oh) = true := decide_eq_true h2
  have H2 := Lib.hid h2
  clear h2
  have d3 : ¬ ol < 0 := by omega
  clear h3
  have d4 : decide (tickOk a) = true := decide_eq_true h4
  have H4 := Lib.hid h4
  clear h4
  have H5 := Lib.hid h5
  clear h5
  obtain ⟨x, hx⟩ : ∃ x, lo + ol = x := ⟨_, rfl⟩
  obtain ⟨y, hy⟩ : ∃ y, hi + oh = y := ⟨_, rfl⟩
  skip
  have HX := Lib.hid hx
  have HY := Lib.hid hy
  clear hx hy
  go_enter Try.func44, Try.ntmps44
  go_upto_region 1 with fail
  obtain ⟨x1, s_, u_, h_, ex1, es_, eu_, eh_⟩ : ∃ x1 s_ u_ h_, x1 = ((w.alloc (.cells #[.int .i64 cn, .int .i64 at_, .int .i64 lo, .int .i64 hi, .int .i64 pp, .int .i64 le, .int .i64 re] 41)).alloc (.cells #[.int .i64 ol, .int .i64 oh] 37)).alloc (.cells #[.int .i64 0, .int .i64 0, .int .i64 0, .int .i64 0, .int .i64 0, .int .i64 0] 39) ∧ s_ = w.heap.size ∧ u_ = w.heap.size + 1 ∧ h_ = w.heap.size + 1 + 1 := ⟨_, _, _, _, rfl, rfl, rfl, rfl⟩
  rw [← ex1, ← eh_, ← eu_, ← es_]
  have hbx : Below w.heap.size w x1 := by rw [ex1]; exact below_alloc3 _ _ _ _ 
  have o_S_U : s_ < u_ := by omega
  have o_U_H : u_ < h_ := by omega
  have g_S : w.heap.size ≤ s_ := by rw [es_]; exact Nat.le_refl _
  have BS := Lib.hid (show Blk x1 s_ 41 #[.int .i64 cn, .int .i64 at_, .int .i64 lo, .int .i64 hi, .int .i64 pp, .int .i64 le, .int .i64 re] by rw [ex1, es_]; exact blk_new3_0 _ _ _ _ _ _ _ )
  have BU := Lib.hid (show Blk x1 u_ 37 #[.int .i64 ol, .int .i64 oh] by rw [ex1, eu_]; exact blk_new3_1 _ _ _ _ _ _ _ )
  have BH := Lib.hid (show Blk x1 h_ 39 #[.int .i64 0, .int .i64 0, .int .i64 0, .int .i64 0, .int .i64 0, .int .i64 0] by rw [ex1, eh_]; exact blk_new3_2 _ _ _ _ _ _ _ )
  have R2 := Lib.hid hbx
  have hz_x1 := R2.out.size
  clear hbx ex1 es_ eu_ eh_
  have kS_0 : x1.cell? ⟨s_, 0, none⟩ = some (.int .i64 cn) := BS.out.cell 0
  have kS_1 : x1.cell? ⟨s_, 1, none⟩ = some (.int .i64 at_) := BS.out.cell 1
  have kS_2 : x1.cell? ⟨s_, 2, none⟩ = some (.int .i64 lo) := BS.out.cell 2
  have kS_3 : x1.cell? ⟨s_, 3, none⟩ = some (.int .i64 hi) := BS.out.cell 3
  have kS_4 : x1.cell? ⟨s_, 4, none⟩ = some (.int .i64 pp) := BS.out.cell 4
  have kS_5 : x1.cell? ⟨s_, 5, none⟩ = some (.int .i64 le) := BS.out.cell 5
  have kS_6 : x1.cell? ⟨s_, 6, none⟩ = some (.int .i64 re) := BS.out.cell 6
  have kU_0 : x1.cell? ⟨u_, 0, none⟩ = some (.int .i64 ol) := BU.out.cell 0
  have kU_1 : x1.cell? ⟨u_, 1, none⟩ = some (.int .i64 oh) := BU.out.cell 1
  go_wp2_with fail
  refine (refKnownV at_ lo hi pp le re _).mono ?_
  rintro e y3 ⟨rfl, hb⟩
  clear kS_0 kS_1 kS_2 kS_3 kS_4 kS_5 kS_6 kU_0 kU_1
  have hbx : Below x1.heap.size x1 y3 := below_via (by go_grown) hb (by first | (simp; done) | (simp; omega))
  have BS := Lib.hid (BS.out.stays hbx)
  have BU := Lib.hid (BU.out.stays hbx)
  have BH := Lib.hid (BH.out.stays hbx)
  have R4 := Lib.hid (R2.out.trans (hbx.mono hz_x1))
  have hz_y3 := R4.out.size
  clear hb hbx  R2 hz_x1
  rw [HE.out]
  have kS_0 : y3.cell? ⟨s_, 0, none⟩ = some (.int .i64 cn) := BS.out.cell 0
  have kS_1 : y3.cell? ⟨s_, 1, none⟩ = some (.int .i64 at_) := BS.out.cell 1
  have kS_2 : y3.cell? ⟨s_, 2, none⟩ = some (.int .i64 lo) := BS.out.cell 2
  have kS_3 : y3.cell? ⟨s_, 3, none⟩ = some (.int .i64 hi) := BS.out.cell 3
  have kS_4 : y3.cell? ⟨s_, 4, none⟩ = some (.int .i64 pp) := BS.out.cell 4
  have kS_5 : y3.cell? ⟨s_, 5, none⟩ = some (.int .i64 le) := BS.out.cell 5
  have kS_6 : y3.cell? ⟨s_, 6, none⟩ = some (.int .i64 re) := BS.out.cell 6
  have kU_0 : y3.cell? ⟨u_, 0, none⟩ = some (.int .i64 ol) := BU.out.cell 0
  have kU_1 : y3.cell? ⟨u_, 1, none⟩ = some (.int .i64 oh) := BU.out.cell 1
  go_wp2_with fail
  refine (refSpanV ol oh _).mono ?_
  rintro e y5 ⟨rfl, hb⟩
  clear kS_0 kS_1 kS_2 kS_3 kS_4 kS_5 kS_6 kU_0 kU_1
  have hbx : Below y3.heap.size y3 y5 := below_via (by go_grown) hb (by first | (simp; done) | (simp; omega))
  have BS := Lib.hid (BS.out.stays hbx)
  have BU := Lib.hid (BU.out.stays hbx)
  have BH := Lib.hid (BH.out.stays hbx)
  have R6 := Lib.hid (R4.out.trans (hbx.mono hz_y3))
  have hz_y5 := R6.out.size
  clear hb hbx  R4 hz_y3
  rw [d2]
  have kS_0 : y5.cell? ⟨s_, 0, none⟩ = some (.int .i64 cn) := BS.out.cell 0
  have kS_1 : y5.cell? ⟨s_, 1, none⟩ = some (.int .i64 at_) := BS.out.cell 1
  have kS_2 : y5.cell? ⟨s_, 2, none⟩ = some (.int .i64 lo) := BS.out.cell 2
  have kS_3 : y5.cell? ⟨s_, 3, none⟩ = some (.int .i64 hi) := BS.out.cell 3
  have kS_4 : y5.cell? ⟨s_, 4, none⟩ = some (.int .i64 pp) := BS.out.cell 4
  have kS_5 : y5.cell? ⟨s_, 5, none⟩ = some (.int .i64 le) := BS.out.cell 5
  have kS_6 : y5.cell? ⟨s_, 6, none⟩ = some (.int .i64 re) := BS.out.cell 6
  have kU_0 : y5.cell? ⟨u_, 0, none⟩ = some (.int .i64 ol) := BU.out.cell 0
  have kU_1 : y5.cell? ⟨u_, 1, none⟩ = some (.int .i64 oh) := BU.out.cell 1
  go_wp2_with fail
  refine (refTicksV a _).mono ?_
  rintro e q_ ⟨rfl, rfl⟩
  rw [d4]
  clear kS_0 kS_1 kS_2 kS_3 kS_4 kS_5 kS_6 kU_0 kU_1
  have kS_0 : y5.cell? ⟨s_, 0, none⟩ = some (.int .i64 cn) := BS.out.cell 0
  have kS_1 : y5.cell? ⟨s_, 1, none⟩ = some (.int .i64 at_) := BS.out.cell 1
  have kS_2 : y5.cell? ⟨s_, 2, none⟩ = some (.int .i64 lo) := BS.out.cell 2
  have kS_3 : y5.cell? ⟨s_, 3, none⟩ = some (.int .i64 hi) := BS.out.cell 3
  have kS_4 : y5.cell? ⟨s_, 4, none⟩ = some (.int .i64 pp) := BS.out.cell 4
  have kS_5 : y5.cell? ⟨s_, 5, none⟩ = some (.int .i64 le) := BS.out.cell 5
  have kS_6 : y5.cell? ⟨s_, 6, none⟩ = some (.int .i64 re) := BS.out.cell 6
  have kU_0 : y5.cell? ⟨u_, 0, none⟩ = some (.int .i64 ol) := BU.out.cell 0
  have kU_1 : y5.cell? ⟨u_, 1, none⟩ = some (.int .i64 oh) := BU.out.cell 1
  go_wp2_with fail
  refine (refAdd_bad lo hi ol oh _ HS.out H2.out H5.out).mono ?_
  rintro e y7 ⟨rfl, hb⟩
  clear kS_0 kS_1 kS_2 kS_3 kS_4 kS_5 kS_6 kU_0 kU_1
  have hbx : Below y5.heap.size y5 y7 := below_via (by go_grown) hb (by first | (simp; done) | (simp; omega))
  have BS := Lib.hid (BS.out.stays hbx)
  have BU := Lib.hid (BU.out.stays hbx)
  have BH := Lib.hid (BH.out.stays hbx)
  have R8 := Lib.hid (R6.out.trans (hbx.mono hz_y5))
  have hz_y7 := R8.out.size
  clear hb hbx  R6 hz_y5
  go_upto_region 9 with fail
  obtain ⟨x9, o_, ex9, eo_⟩ : ∃ x9 o_, x9 = y7.alloc (.cells #[.int .i64 0, .int .i64 0] 37) ∧ o_ = y7.heap.size := ⟨_, _, rfl, rfl⟩
  rw [← ex9, ← eo_]
  have hbx : Below y7.heap.size y7 x9 := by rw [ex9]; exact below_alloc1 _ _ 
  have o_S_O : s_ < o_ := by rw [eo_]; exact BS.out.lt
  have o_U_O : u_ < o_ := by rw [eo_]; exact BU.out.lt
  have o_H_O : h_ < o_ := by rw [eo_]; exact BH.out.lt
  have g_O : w.heap.size ≤ o_ := by rw [eo_]; exact hz_y7
  have BS := Lib.hid (BS.out.stays hbx)
  have BU := Lib.hid (BU.out.stays hbx)
  have BH := Lib.hid (BH.out.stays hbx)
  have BO := Lib.hid (show Blk x9 o_ 37 #[.int .i64 0, .int .i64 0] by rw [ex9, eo_]; exact blk_new1_0 _ _ _ )
  have R10 := Lib.hid (R8.out.trans (hbx.mono hz_y7))
  have hz_x9 := R10.out.size
  clear hbx ex9 eo_ R8 hz_y7
  have kS_0 : x9.cell? ⟨s_, 0, none⟩ = some (.int .i64 cn) := BS.out.cell 0
  have kS_1 : x9.cell? ⟨s_, 1, none⟩ = some (.int .i64 at_) := BS.out.cell 1
  have kS_2 : x9.cell? ⟨s_, 2, none⟩ = some (.int .i64 lo) := BS.out.cell 2
  have kS_3 : x9.cell? ⟨s_, 3, none⟩ = some (.int .i64 hi) := BS.out.cell 3
  have kS_4 : x9.cell? ⟨s_, 4, none⟩ = some (.int .i64 pp) := BS.out.cell 4
  have kS_5 : x9.cell? ⟨s_, 5, none⟩ = some (.int .i64 le) := BS.out.cell 5
  have kS_6 : x9.cell? ⟨s_, 6, none⟩ = some (.int .i64 re) := BS.out.cell 6
  have kU_0 : x9.cell? ⟨u_, 0, none⟩ = some (.int .i64 ol) := BU.out.cell 0
  have kU_1 : x9.cell? ⟨u_, 1, none⟩ = some (.int .i64 oh) := BU.out.cell 1
  have cH := BH.out.cell
  have zH := BH.out.frozen
  go_wp2
  clear zH cH
  clear kS_0 kS_1 kS_2 kS_3 kS_4 kS_5 kS_6 kU_0 kU_1
  generalize hwd : World.setCell _ ⟨h_, 5, none⟩ _ = wd
  have hwd2 : stores x9 h_ [.int .i64 0, .int .i64 0, .int .i64 0, .int .i64 0, .int .i64 0, .int .i64 0] 0 = wd := hwd
  have D1 : Blk wd h_ 39 #[.int .i64 0, .int .i64 0, .int .i64 0, .int .i64 0, .int .i64 0, .int .i64 0] := by rw [← hwd2]; exact BH.out.filled _ rfl
  have RD : Below w.heap.size w wd := by rw [← hwd2]; exact Below.stores (by omega) _ _ _ R10.out
  clear hwd hwd2
  have d1_0 : wd.cell? ⟨h_, 0, none⟩ = some (.int .i64 0) := D1.cell 0
  have d1_1 : wd.cell? ⟨h_, 1, none⟩ = some (.int .i64 0) := D1.cell 1
  have d1_2 : wd.cell? ⟨h_, 2, none⟩ = some (.int .i64 0) := D1.cell 2
  have d1_3 : wd.cell? ⟨h_, 3, none⟩ = some (.int .i64 0) := D1.cell 3
  have d1_4 : wd.cell? ⟨h_, 4, none⟩ = some (.int .i64 0) := D1.cell 4
  have d1_5 : wd.cell? ⟨h_, 5, none⟩ = some (.int .i64 0) := D1.cell 5
  try go_wp2_with fail
  refine bodyPost_ret (v := .tuple #[.agg #[.int .i64 0, .int .i64 0, .int .i64 0, .int .i64 0, .int .i64 0, .int .i64 0], .int .i64 4]) (by simp [results, Try.results44, go_sem, *]) rfl ⟨rfl, RD⟩
set_option maxRecDepth 100000 in
set_option maxHeartbeats 4000000 in
theorem refWake_6 (cn at_ lo hi pp le re ol oh a : Int) (w : World) (h1 : knE at_ lo hi pp le re = 0) (h2 : spanOk ol oh) (h3 : 0 ≤ ol) (h4 : tickOk a) (h5 : spanOk (lo + ol) (hi + oh)) : Calls Try.prog 44 #[.agg #[.int .i64 cn, .int .i64 at_, .int .i64 lo, .int .i64 hi, .int .i64 pp, .int .i64 le, .int .i64 re], .agg #[.int .i64 ol, .int .i64 oh], .int .i64 a] w fun e w' => e = .returned (.tuple #[.agg #[.int .i64 a, .int .i64 (lo + ol), .int .i64 (hi + oh), .int .i64 pp, .int .i64 0, .int .i64 0], .int .i64 0]) ∧ Below w.heap.size w w' := by
  have HE := Lib.hid h1
  have HS := Lib.hid (kn_span at_ lo hi pp le re h1)
  have HK := Lib.hid (kn_begin at_ lo hi pp le re h1)
  clear h1
  have d2 : decide (spanOk ol oh) = true := decide_eq_true h2
  have H2 := Lib.hid h2
  clear h2
  have d3 : ¬ ol < 0 := by omega
  clear h3
  have d4 : decide (tickOk a) = true := decide_eq_true h4
  have H4 := Lib.hid h4
  clear h4
  have H5 := Lib.hid h5
  clear h5
  obtain ⟨x, hx⟩ : ∃ x, lo + ol = x := ⟨_, rfl⟩
  obtain ⟨y, hy⟩ : ∃ y, hi + oh = y := ⟨_, rfl⟩
  rw [hx, hy]
  have HX := Lib.hid hx
  have HY := Lib.hid hy
  have H6 := Lib.hid (HK.out a x y H4.out (by rw [← hx, ← hy]; exact H5.out))
  clear hx hy
  go_enter Try.func44, Try.ntmps44
  go_upto_region 1 with fail
  obtain ⟨x1, s_, u_, h_, ex1, es_, eu_, eh_⟩ : ∃ x1 s_ u_ h_, x1 = ((w.alloc (.cells #[.int .i64 cn, .int .i64 at_, .int .i64 lo, .int .i64 hi, .int .i64 pp, .int .i64 le, .int .i64 re] 41)).alloc (.cells #[.int .i64 ol, .int .i64 oh] 37)).alloc (.cells #[.int .i64 0, .int .i64 0, .int .i64 0, .int .i64 0, .int .i64 0, .int .i64 0] 39) ∧ s_ = w.heap.size ∧ u_ = w.heap.size + 1 ∧ h_ = w.heap.size + 1 + 1 := ⟨_, _, _, _, rfl, rfl, rfl, rfl⟩
  rw [← ex1, ← eh_, ← eu_, ← es_]
  have hbx : Below w.heap.size w x1 := by rw [ex1]; exact below_alloc3 _ _ _ _ 
  have o_S_U : s_ < u_ := by omega
  have o_U_H : u_ < h_ := by omega
  have g_S : w.heap.size ≤ s_ := by rw [es_]; exact Nat.le_refl _
  have BS := Lib.hid (show Blk x1 s_ 41 #[.int .i64 cn, .int .i64 at_, .int .i64 lo, .int .i64 hi, .int .i64 pp, .int .i64 le, .int .i64 re] by rw [ex1, es_]; exact blk_new3_0 _ _ _ _ _ _ _ )
  have BU := Lib.hid (show Blk x1 u_ 37 #[.int .i64 ol, .int .i64 oh] by rw [ex1, eu_]; exact blk_new3_1 _ _ _ _ _ _ _ )
  have BH := Lib.hid (show Blk x1 h_ 39 #[.int .i64 0, .int .i64 0, .int .i64 0, .int .i64 0, .int .i64 0, .int .i64 0] by rw [ex1, eh_]; exact blk_new3_2 _ _ _ _ _ _ _ )
  have R2 := Lib.hid hbx
  have hz_x1 := R2.out.size
  clear hbx ex1 es_ eu_ eh_
  have kS_0 : x1.cell? ⟨s_, 0, none⟩ = some (.int .i64 cn) := BS.out.cell 0
  have kS_1 : x1.cell? ⟨s_, 1, none⟩ = some (.int .i64 at_) := BS.out.cell 1
  have kS_2 : x1.cell? ⟨s_, 2, none⟩ = some (.int .i64 lo) := BS.out.cell 2
  have kS_3 : x1.cell? ⟨s_, 3, none⟩ = some (.int .i64 hi) := BS.out.cell 3
  have kS_4 : x1.cell? ⟨s_, 4, none⟩ = some (.int .i64 pp) := BS.out.cell 4
  have kS_5 : x1.cell? ⟨s_, 5, none⟩ = some (.int .i64 le) := BS.out.cell 5
  have kS_6 : x1.cell? ⟨s_, 6, none⟩ = some (.int .i64 re) := BS.out.cell 6
  have kU_0 : x1.cell? ⟨u_, 0, none⟩ = some (.int .i64 ol) := BU.out.cell 0
  have kU_1 : x1.cell? ⟨u_, 1, none⟩ = some (.int .i64 oh) := BU.out.cell 1
  go_wp2_with fail
  refine (refKnownV at_ lo hi pp le re _).mono ?_
  rintro e y3 ⟨rfl, hb⟩
  clear kS_0 kS_1 kS_2 kS_3 kS_4 kS_5 kS_6 kU_0 kU_1
  have hbx : Below x1.heap.size x1 y3 := below_via (by go_grown) hb (by first | (simp; done) | (simp; omega))
  have BS := Lib.hid (BS.out.stays hbx)
  have BU := Lib.hid (BU.out.stays hbx)
  have BH := Lib.hid (BH.out.stays hbx)
  have R4 := Lib.hid (R2.out.trans (hbx.mono hz_x1))
  have hz_y3 := R4.out.size
  clear hb hbx  R2 hz_x1
  rw [HE.out]
  have kS_0 : y3.cell? ⟨s_, 0, none⟩ = some (.int .i64 cn) := BS.out.cell 0
  have kS_1 : y3.cell? ⟨s_, 1, none⟩ = some (.int .i64 at_) := BS.out.cell 1
  have kS_2 : y3.cell? ⟨s_, 2, none⟩ = some (.int .i64 lo) := BS.out.cell 2
  have kS_3 : y3.cell? ⟨s_, 3, none⟩ = some (.int .i64 hi) := BS.out.cell 3
  have kS_4 : y3.cell? ⟨s_, 4, none⟩ = some (.int .i64 pp) := BS.out.cell 4
  have kS_5 : y3.cell? ⟨s_, 5, none⟩ = some (.int .i64 le) := BS.out.cell 5
  have kS_6 : y3.cell? ⟨s_, 6, none⟩ = some (.int .i64 re) := BS.out.cell 6
  have kU_0 : y3.cell? ⟨u_, 0, none⟩ = some (.int .i64 ol) := BU.out.cell 0
  have kU_1 : y3.cell? ⟨u_, 1, none⟩ = some (.int .i64 oh) := BU.out.cell 1
  go_wp2_with fail
  refine (refSpanV ol oh _).mono ?_
  rintro e y5 ⟨rfl, hb⟩
  clear kS_0 kS_1 kS_2 kS_3 kS_4 kS_5 kS_6 kU_0 kU_1
  have hbx : Below y3.heap.size y3 y5 := below_via (by go_grown) hb (by first | (simp; done) | (simp; omega))
  have BS := Lib.hid (BS.out.stays hbx)
  have BU := Lib.hid (BU.out.stays hbx)
  have BH := Lib.hid (BH.out.stays hbx)
  have R6 := Lib.hid (R4.out.trans (hbx.mono hz_y3))
  have hz_y5 := R6.out.size
  clear hb hbx  R4 hz_y3
  rw [d2]
  have kS_0 : y5.cell? ⟨s_, 0, none⟩ = some (.int .i64 cn) := BS.out.cell 0
  have kS_1 : y5.cell? ⟨s_, 1, none⟩ = some (.int .i64 at_) := BS.out.cell 1
  have kS_2 : y5.cell? ⟨s_, 2, none⟩ = some (.int .i64 lo) := BS.out.cell 2
  have kS_3 : y5.cell? ⟨s_, 3, none⟩ = some (.int .i64 hi) := BS.out.cell 3
  have kS_4 : y5.cell? ⟨s_, 4, none⟩ = some (.int .i64 pp) := BS.out.cell 4
  have kS_5 : y5.cell? ⟨s_, 5, none⟩ = some (.int .i64 le) := BS.out.cell 5
  have kS_6 : y5.cell? ⟨s_, 6, none⟩ = some (.int .i64 re) := BS.out.cell 6
  have kU_0 : y5.cell? ⟨u_, 0, none⟩ = some (.int .i64 ol) := BU.out.cell 0
  have kU_1 : y5.cell? ⟨u_, 1, none⟩ = some (.int .i64 oh) := BU.out.cell 1
  go_wp2_with fail
  refine (refTicksV a _).mono ?_
  rintro e q_ ⟨rfl, rfl⟩
  rw [d4]
  clear kS_0 kS_1 kS_2 kS_3 kS_4 kS_5 kS_6 kU_0 kU_1
  have kS_0 : y5.cell? ⟨s_, 0, none⟩ = some (.int .i64 cn) := BS.out.cell 0
  have kS_1 : y5.cell? ⟨s_, 1, none⟩ = some (.int .i64 at_) := BS.out.cell 1
  have kS_2 : y5.cell? ⟨s_, 2, none⟩ = some (.int .i64 lo) := BS.out.cell 2
  have kS_3 : y5.cell? ⟨s_, 3, none⟩ = some (.int .i64 hi) := BS.out.cell 3
  have kS_4 : y5.cell? ⟨s_, 4, none⟩ = some (.int .i64 pp) := BS.out.cell 4
  have kS_5 : y5.cell? ⟨s_, 5, none⟩ = some (.int .i64 le) := BS.out.cell 5
  have kS_6 : y5.cell? ⟨s_, 6, none⟩ = some (.int .i64 re) := BS.out.cell 6
  have kU_0 : y5.cell? ⟨u_, 0, none⟩ = some (.int .i64 ol) := BU.out.cell 0
  have kU_1 : y5.cell? ⟨u_, 1, none⟩ = some (.int .i64 oh) := BU.out.cell 1
  go_wp2_with fail
  refine (refAdd_ok lo hi ol oh _ HS.out H2.out H5.out).mono ?_
  rintro e y7 ⟨rfl, hb⟩
  clear kS_0 kS_1 kS_2 kS_3 kS_4 kS_5 kS_6 kU_0 kU_1
  have hbx : Below y5.heap.size y5 y7 := below_via (by go_grown) hb (by first | (simp; done) | (simp; omega))
  have BS := Lib.hid (BS.out.stays hbx)
  have BU := Lib.hid (BU.out.stays hbx)
  have BH := Lib.hid (BH.out.stays hbx)
  have R8 := Lib.hid (R6.out.trans (hbx.mono hz_y5))
  have hz_y7 := R8.out.size
  clear hb hbx  R6 hz_y5
  rw [HX.out, HY.out]
  go_upto_region 9 with fail
  obtain ⟨x9, o_, ex9, eo_⟩ : ∃ x9 o_, x9 = y7.alloc (.cells #[.int .i64 x, .int .i64 y] 37) ∧ o_ = y7.heap.size := ⟨_, _, rfl, rfl⟩
  rw [← ex9, ← eo_]
  have hbx : Below y7.heap.size y7 x9 := by rw [ex9]; exact below_alloc1 _ _ 
  have o_S_O : s_ < o_ := by rw [eo_]; exact BS.out.lt
  have o_U_O : u_ < o_ := by rw [eo_]; exact BU.out.lt
  have o_H_O : h_ < o_ := by rw [eo_]; exact BH.out.lt
  have g_O : w.heap.size ≤ o_ := by rw [eo_]; exact hz_y7
  have BS := Lib.hid (BS.out.stays hbx)
  have BU := Lib.hid (BU.out.stays hbx)
  have BH := Lib.hid (BH.out.stays hbx)
  have BO := Lib.hid (show Blk x9 o_ 37 #[.int .i64 x, .int .i64 y] by rw [ex9, eo_]; exact blk_new1_0 _ _ _ )
  have R10 := Lib.hid (R8.out.trans (hbx.mono hz_y7))
  have hz_x9 := R10.out.size
  clear hbx ex9 eo_ R8 hz_y7
  have kS_0 : x9.cell? ⟨s_, 0, none⟩ = some (.int .i64 cn) := BS.out.cell 0
  have kS_1 : x9.cell? ⟨s_, 1, none⟩ = some (.int .i64 at_) := BS.out.cell 1
  have kS_2 : x9.cell? ⟨s_, 2, none⟩ = some (.int .i64 lo) := BS.out.cell 2
  have kS_3 : x9.cell? ⟨s_, 3, none⟩ = some (.int .i64 hi) := BS.out.cell 3
  have kS_4 : x9.cell? ⟨s_, 4, none⟩ = some (.int .i64 pp) := BS.out.cell 4
  have kS_5 : x9.cell? ⟨s_, 5, none⟩ = some (.int .i64 le) := BS.out.cell 5
  have kS_6 : x9.cell? ⟨s_, 6, none⟩ = some (.int .i64 re) := BS.out.cell 6
  have kU_0 : x9.cell? ⟨u_, 0, none⟩ = some (.int .i64 ol) := BU.out.cell 0
  have kU_1 : x9.cell? ⟨u_, 1, none⟩ = some (.int .i64 oh) := BU.out.cell 1
  have kO_0 : x9.cell? ⟨o_, 0, none⟩ = some (.int .i64 x) := BO.out.cell 0
  have kO_1 : x9.cell? ⟨o_, 1, none⟩ = some (.int .i64 y) := BO.out.cell 1
  clear kS_0 kS_1 kS_2 kS_3 kS_4 kS_5 kS_6 kU_0 kU_1 kO_0 kO_1
  have kS_0 : x9.cell? ⟨s_, 0, none⟩ = some (.int .i64 cn) := BS.out.cell 0
  have kS_1 : x9.cell? ⟨s_, 1, none⟩ = some (.int .i64 at_) := BS.out.cell 1
  have kS_2 : x9.cell? ⟨s_, 2, none⟩ = some (.int .i64 lo) := BS.out.cell 2
  have kS_3 : x9.cell? ⟨s_, 3, none⟩ = some (.int .i64 hi) := BS.out.cell 3
  have kS_4 : x9.cell? ⟨s_, 4, none⟩ = some (.int .i64 pp) := BS.out.cell 4
  have kS_5 : x9.cell? ⟨s_, 5, none⟩ = some (.int .i64 le) := BS.out.cell 5
  have kS_6 : x9.cell? ⟨s_, 6, none⟩ = some (.int .i64 re) := BS.out.cell 6
  have kU_0 : x9.cell? ⟨u_, 0, none⟩ = some (.int .i64 ol) := BU.out.cell 0
  have kU_1 : x9.cell? ⟨u_, 1, none⟩ = some (.int .i64 oh) := BU.out.cell 1
  have kO_0 : x9.cell? ⟨o_, 0, none⟩ = some (.int .i64 x) := BO.out.cell 0
  have kO_1 : x9.cell? ⟨o_, 1, none⟩ = some (.int .i64 y) := BO.out.cell 1
  have cH := BH.out.cell
  have zH := BH.out.frozen
  go_wp2
  clear zH cH
  clear kS_0 kS_1 kS_2 kS_3 kS_4 kS_5 kS_6 kU_0 kU_1 kO_0 kO_1
  generalize hwd : World.setCell _ ⟨h_, 5, none⟩ _ = wd
  have hwd2 : stores x9 h_ [.int .i64 a, .int .i64 x, .int .i64 y, .int .i64 pp, .int .i64 0, .int .i64 0] 0 = wd := hwd
  have D1 : Blk wd h_ 39 #[.int .i64 a, .int .i64 x, .int .i64 y, .int .i64 pp, .int .i64 0, .int .i64 0] := by rw [← hwd2]; exact BH.out.filled _ rfl
  have RD : Below w.heap.size w wd := by rw [← hwd2]; exact Below.stores (by omega) _ _ _ R10.out
  clear hwd hwd2
  have d1_0 : wd.cell? ⟨h_, 0, none⟩ = some (.int .i64 a) := D1.cell 0
  have d1_1 : wd.cell? ⟨h_, 1, none⟩ = some (.int .i64 x) := D1.cell 1
  have d1_2 : wd.cell? ⟨h_, 2, none⟩ = some (.int .i64 y) := D1.cell 2
  have d1_3 : wd.cell? ⟨h_, 3, none⟩ = some (.int .i64 pp) := D1.cell 3
  have d1_4 : wd.cell? ⟨h_, 4, none⟩ = some (.int .i64 0) := D1.cell 4
  have d1_5 : wd.cell? ⟨h_, 5, none⟩ = some (.int .i64 0) := D1.cell 5
  try go_wp2_with fail
  refine bodyPost_ret (v := .tuple #[.agg #[.int .i64 a, .int .i64 x, .int .i64 y, .int .i64 pp, .int .i64 0, .int .i64 0], .int .i64 0]) (by simp [results, Try.results44, go_sem, *]) rfl ⟨rfl, RD⟩
end Go.Proofs.Ytbjmojajhkhekaa
