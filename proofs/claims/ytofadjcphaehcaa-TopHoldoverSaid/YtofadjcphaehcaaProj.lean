/- drift.Project where it succeeds; interval.Width, Holds of spans. -/
import Derived.Test.YtofadjcphaehcaaHolL
import Derived.Test.YtofadjcphaehcaaSpnU
import Derived.Test.YtofadjcphaehcaaDrh
namespace Go.Proofs.Ytofadjcphaehcaa
open Go Go.RowKit

theorem el_span {d p : Nat} (hd : d < 562949953421312) (hp : p ≤ 1000000) : spanOk (eLo d p) (eHi d p) := by
  have h1 := el_lt hd hp
  have h2 := el_wide hd hp
  have h3 := el_le d p hp
  unfold spanOk tickOk
  omega
set_option maxRecDepth 100000 in
set_option maxHeartbeats 4000000 in
theorem proj1 (x y u v : Int) (g : Nat) (w : World) (hg : Blk w g 67 #[.int .i64 x, .int .i64 y]) (h1 : spanOk x y) (h2 : spanOk u v) (h3 : spanOk (x + u) (y + v)) : Calls Try.prog 85 #[.agg #[.int .i64 u, .int .i64 v], .pointer (some ⟨g, 0, none⟩)] w fun e w' => e = .returned (.tuple #[.agg #[.int .i64 (x + u), .int .i64 (y + v)], .int .i64 0]) ∧ Below w.heap.size w w' := by
  have HG := Lib.hid hg
  have H1 := Lib.hid h1
  have H2 := Lib.hid h2
  have H3 := Lib.hid h3
  clear hg h1 h2 h3
  go_enter Try.func85, Try.ntmps85
  go_upto_region 1 with fail
  obtain ⟨x1, x_, h_, ex1, ex_, eh_⟩ : ∃ x1 x_ h_, x1 = (w.alloc (.cells #[.int .i64 u, .int .i64 v] 67)).alloc (.cells #[.int .i64 0, .int .i64 0] 67) ∧ x_ = w.heap.size ∧ h_ = w.heap.size + 1 := ⟨_, _, _, rfl, rfl, rfl⟩
  rw [← ex1, ← eh_, ← ex_]
  have hbx : Below w.heap.size w x1 := by rw [ex1]; exact below_alloc2 _ _ _ 
  have o_X_H : x_ < h_ := by omega
  have g_X : w.heap.size ≤ x_ := by rw [ex_]; exact Nat.le_refl _
  have BX := Lib.hid (show Blk x1 x_ 67 #[.int .i64 u, .int .i64 v] by rw [ex1, ex_]; exact blk_new2_0 _ _ _ _ _ )
  have BH := Lib.hid (show Blk x1 h_ 67 #[.int .i64 0, .int .i64 0] by rw [ex1, eh_]; exact blk_new2_1 _ _ _ _ _ )
  have R2 := Lib.hid hbx
  have hz_x1 := R2.out.size
  clear hbx ex1 ex_ eh_
  have HG := Lib.hid (HG.out.stays R2.out)
  have kg_0 : x1.cell? ⟨g, 0, none⟩ = some (.int .i64 x) := HG.out.cell 0
  have kg_1 : x1.cell? ⟨g, 1, none⟩ = some (.int .i64 y) := HG.out.cell 1
  have kX_0 : x1.cell? ⟨x_, 0, none⟩ = some (.int .i64 u) := BX.out.cell 0
  have kX_1 : x1.cell? ⟨x_, 1, none⟩ = some (.int .i64 v) := BX.out.cell 1
  go_wp2_with fail
  refine (add_ok x y u v _ H1.out H2.out H3.out).mono ?_
  rintro e y3 ⟨rfl, hb⟩
  clear kg_0 kg_1 kX_0 kX_1
  have hbx : Below x1.heap.size x1 y3 := below_via (by go_grown) hb (by first | (simp; done) | (simp; omega))
  have BX := Lib.hid (BX.out.stays hbx)
  have BH := Lib.hid (BH.out.stays hbx)
  have HG := Lib.hid (HG.out.stays hbx)
  have R4 := Lib.hid (R2.out.trans (hbx.mono hz_x1))
  have hz_y3 := R4.out.size
  clear hb hbx  R2 hz_x1
  have cH := BH.out.cell
  have zH := BH.out.frozen
  go_wp2
  clear zH cH
  generalize hwd : World.setCell _ ⟨h_, 1, none⟩ _ = wd
  have hwd2 : stores y3 h_ [.int .i64 (x + u), .int .i64 (y + v)] 0 = wd := hwd
  have D1 : Blk wd h_ 67 #[.int .i64 (x + u), .int .i64 (y + v)] := by rw [← hwd2]; exact BH.out.filled _ rfl
  have RD : Below w.heap.size w wd := by rw [← hwd2]; exact Below.stores (by omega) _ _ _ R4.out
  clear hwd hwd2
  have d1_0 : wd.cell? ⟨h_, 0, none⟩ = some (.int .i64 (x + u)) := D1.cell 0
  have d1_1 : wd.cell? ⟨h_, 1, none⟩ = some (.int .i64 (y + v)) := D1.cell 1
  try go_wp2_with fail
  refine bodyPost_ret (v := .tuple #[.agg #[.int .i64 (x + u), .int .i64 (y + v)], .int .i64 0]) (by simp [results, Try.results85, go_sem, *]) rfl ⟨rfl, RD⟩
set_option maxRecDepth 100000 in
set_option maxHeartbeats 4000000 in
theorem moved_ok (x y : Int) (d p g : Nat) (w : World) (hg : Blk w g 67 #[.int .i64 x, .int .i64 y]) (hd : d < 562949953421312) (hp : p ≤ 1000000) (h1 : spanOk x y) (h3 : spanOk (x + (eLo d p : Nat)) (y + (eHi d p : Nat))) : Calls Try.prog 84 #[.agg #[.int .i64 x, .int .i64 y], .int .i64 d, .int .i64 p, .func (.func 85) #[] #[.pointer (some ⟨g, 0, none⟩)]] w fun e w' => e = .returned (.tuple #[.agg #[.int .i64 (x + (eLo d p : Nat)), .int .i64 (y + (eHi d p : Nat))], .int .i64 0]) ∧ Below w.heap.size w w' := by
  have CE := Lib.hid (fun w => elapsed_ok15 d p w hd hp)
  have S2 := Lib.hid (el_span hd hp)
  have e1 : decide (spanOk x y) = true := decide_eq_true h1
  have HG := Lib.hid hg
  have H1 := Lib.hid h1
  clear hg h1
  obtain ⟨u, hu⟩ : ∃ u, eLo d p = u := ⟨_, rfl⟩
  obtain ⟨v, hv⟩ : ∃ v, eHi d p = v := ⟨_, rfl⟩
  rw [hu, hv] at h3 CE S2 ⊢
  have H3 := Lib.hid h3
  clear h3 hu hv
  go_enter Try.func84, Try.ntmps84
  go_upto_region 1 with fail
  obtain ⟨x1, s_, h_, ex1, es_, eh_⟩ : ∃ x1 s_ h_, x1 = (w.alloc (.cells #[.int .i64 x, .int .i64 y] 67)).alloc (.cells #[.int .i64 0, .int .i64 0] 67) ∧ s_ = w.heap.size ∧ h_ = w.heap.size + 1 := ⟨_, _, _, rfl, rfl, rfl⟩
  rw [← ex1, ← eh_, ← es_]
  have hbx : Below w.heap.size w x1 := by rw [ex1]; exact below_alloc2 _ _ _ 
  have o_S_H : s_ < h_ := by omega
  have g_S : w.heap.size ≤ s_ := by rw [es_]; exact Nat.le_refl _
  have BS := Lib.hid (show Blk x1 s_ 67 #[.int .i64 x, .int .i64 y] by rw [ex1, es_]; exact blk_new2_0 _ _ _ _ _ )
  have BH := Lib.hid (show Blk x1 h_ 67 #[.int .i64 0, .int .i64 0] by rw [ex1, eh_]; exact blk_new2_1 _ _ _ _ _ )
  have R2 := Lib.hid hbx
  have hz_x1 := R2.out.size
  clear hbx ex1 es_ eh_
  have HG := Lib.hid (HG.out.stays R2.out)
  have kS_0 : x1.cell? ⟨s_, 0, none⟩ = some (.int .i64 x) := BS.out.cell 0
  have kS_1 : x1.cell? ⟨s_, 1, none⟩ = some (.int .i64 y) := BS.out.cell 1
  go_wp2_with fail
  refine (intervalV x y _).mono ?_
  rintro e y3 ⟨rfl, hb⟩
  clear kS_0 kS_1
  have hbx : Below x1.heap.size x1 y3 := below_via (by go_grown) hb (by first | (simp; done) | (simp; omega))
  have BS := Lib.hid (BS.out.stays hbx)
  have BH := Lib.hid (BH.out.stays hbx)
  have HG := Lib.hid (HG.out.stays hbx)
  have R4 := Lib.hid (R2.out.trans (hbx.mono hz_x1))
  have hz_y3 := R4.out.size
  clear hb hbx  R2 hz_x1
  rw [e1]
  go_wp2_with fail
  refine (CE.out _).mono ?_
  rintro e y5 ⟨rfl, hb⟩
  have hbx : Below y3.heap.size y3 y5 := below_via (by go_grown) hb (by first | (simp; done) | (simp; omega))
  have BS := Lib.hid (BS.out.stays hbx)
  have BH := Lib.hid (BH.out.stays hbx)
  have HG := Lib.hid (HG.out.stays hbx)
  have R6 := Lib.hid (R4.out.trans (hbx.mono hz_y3))
  have hz_y5 := R6.out.size
  clear hb hbx  R4 hz_y3
  go_upto_region 4 with fail
  obtain ⟨x7, e_, ex7, ee_⟩ : ∃ x7 e_, x7 = y5.alloc (.cells #[.int .i64 (u : Int), .int .i64 (v : Int)] 67) ∧ e_ = y5.heap.size := ⟨_, _, rfl, rfl⟩
  rw [← ex7, ← ee_]
  have hbx : Below y5.heap.size y5 x7 := by rw [ex7]; exact below_alloc1 _ _ 
  have o_S_E : s_ < e_ := by rw [ee_]; exact BS.out.lt
  have o_H_E : h_ < e_ := by rw [ee_]; exact BH.out.lt
  have g_E : w.heap.size ≤ e_ := by rw [ee_]; exact hz_y5
  have BS := Lib.hid (BS.out.stays hbx)
  have BH := Lib.hid (BH.out.stays hbx)
  have HG := Lib.hid (HG.out.stays hbx)
  have BE := Lib.hid (show Blk x7 e_ 67 #[.int .i64 (u : Int), .int .i64 (v : Int)] by rw [ex7, ee_]; exact blk_new1_0 _ _ _ )
  have R8 := Lib.hid (R6.out.trans (hbx.mono hz_y5))
  have hz_x7 := R8.out.size
  clear hbx ex7 ee_ R6 hz_y5
  have kE_0 : x7.cell? ⟨e_, 0, none⟩ = some (.int .i64 (u : Int)) := BE.out.cell 0
  have kE_1 : x7.cell? ⟨e_, 1, none⟩ = some (.int .i64 (v : Int)) := BE.out.cell 1
  go_wp2_with fail
  refine (proj1 x y (u : Int) (v : Int) g _ HG.out H1.out S2.out H3.out).mono ?_
  rintro e y9 ⟨rfl, hb⟩
  clear kE_0 kE_1
  have hbx : Below x7.heap.size x7 y9 := below_via (by go_grown) hb (by first | (simp; done) | (simp; omega))
  have BS := Lib.hid (BS.out.stays hbx)
  have BH := Lib.hid (BH.out.stays hbx)
  have BE := Lib.hid (BE.out.stays hbx)
  have HG := Lib.hid (HG.out.stays hbx)
  have R10 := Lib.hid (R8.out.trans (hbx.mono hz_x7))
  have hz_y9 := R10.out.size
  clear hb hbx  R8 hz_x7
  have cH := BH.out.cell
  have zH := BH.out.frozen
  go_wp2
  clear zH cH
  generalize hwd : World.setCell _ ⟨h_, 1, none⟩ _ = wd
  have hwd2 : stores y9 h_ [.int .i64 (x + (u : Int)), .int .i64 (y + (v : Int))] 0 = wd := hwd
  have D1 : Blk wd h_ 67 #[.int .i64 (x + (u : Int)), .int .i64 (y + (v : Int))] := by rw [← hwd2]; exact BH.out.filled _ rfl
  have RD : Below w.heap.size w wd := by rw [← hwd2]; exact Below.stores (by omega) _ _ _ R10.out
  clear hwd hwd2
  have d1_0 : wd.cell? ⟨h_, 0, none⟩ = some (.int .i64 (x + (u : Int))) := D1.cell 0
  have d1_1 : wd.cell? ⟨h_, 1, none⟩ = some (.int .i64 (y + (v : Int))) := D1.cell 1
  try go_wp2_with fail
  refine bodyPost_ret (v := .tuple #[.agg #[.int .i64 (x + (u : Int)), .int .i64 (y + (v : Int))], .int .i64 0]) (by simp [results, Try.results84, go_sem, *]) rfl ⟨rfl, RD⟩
set_option maxRecDepth 100000 in
set_option maxHeartbeats 4000000 in
theorem project15 (x y : Int) (d p : Nat) (w : World) (hd : d < 562949953421312) (hp : p ≤ 1000000) (h1 : spanOk x y) (h3 : spanOk (x + (eLo d p : Nat)) (y + (eHi d p : Nat))) : Calls Try.prog 58 #[.agg #[.int .i64 x, .int .i64 y], .int .i64 d, .int .i64 p] w fun e w' => e = .returned (.tuple #[.agg #[.int .i64 (x + (eLo d p : Nat)), .int .i64 (y + (eHi d p : Nat))], .int .i64 0]) ∧ Below w.heap.size w w' := by
  have CM := Lib.hid (fun g w hg => moved_ok x y d p g w hg hd hp h1 h3)
  clear h1 h3
  obtain ⟨u, hu⟩ : ∃ u, eLo d p = u := ⟨_, rfl⟩
  obtain ⟨v, hv⟩ : ∃ v, eHi d p = v := ⟨_, rfl⟩
  rw [hu, hv] at CM ⊢
  clear hu hv
  go_enter Try.func58, Try.ntmps58
  go_upto_region 1 with fail
  obtain ⟨x1, s_, h_, ex1, es_, eh_⟩ : ∃ x1 s_ h_, x1 = (w.alloc (.cells #[.int .i64 x, .int .i64 y] 67)).alloc (.cells #[.int .i64 0, .int .i64 0] 67) ∧ s_ = w.heap.size ∧ h_ = w.heap.size + 1 := ⟨_, _, _, rfl, rfl, rfl⟩
  rw [← ex1, ← eh_, ← es_]
  have hbx : Below w.heap.size w x1 := by rw [ex1]; exact below_alloc2 _ _ _ 
  have o_S_H : s_ < h_ := by omega
  have g_S : w.heap.size ≤ s_ := by rw [es_]; exact Nat.le_refl _
  have BS := Lib.hid (show Blk x1 s_ 67 #[.int .i64 x, .int .i64 y] by rw [ex1, es_]; exact blk_new2_0 _ _ _ _ _ )
  have BH := Lib.hid (show Blk x1 h_ 67 #[.int .i64 0, .int .i64 0] by rw [ex1, eh_]; exact blk_new2_1 _ _ _ _ _ )
  have R2 := Lib.hid hbx
  have hz_x1 := R2.out.size
  clear hbx ex1 es_ eh_
  have kS_0 : x1.cell? ⟨s_, 0, none⟩ = some (.int .i64 x) := BS.out.cell 0
  have kS_1 : x1.cell? ⟨s_, 1, none⟩ = some (.int .i64 y) := BS.out.cell 1
  go_wp2_with fail
  refine (CM.out _ _ BS.out).mono ?_
  rintro e y3 ⟨rfl, hb⟩
  clear kS_0 kS_1
  have hbx : Below x1.heap.size x1 y3 := below_via (by go_grown) hb (by first | (simp; done) | (simp; omega))
  have BS := Lib.hid (BS.out.stays hbx)
  have BH := Lib.hid (BH.out.stays hbx)
  have R4 := Lib.hid (R2.out.trans (hbx.mono hz_x1))
  have hz_y3 := R4.out.size
  clear hb hbx  R2 hz_x1
  have cH := BH.out.cell
  have zH := BH.out.frozen
  go_wp2
  clear zH cH
  generalize hwd : World.setCell _ ⟨h_, 1, none⟩ _ = wd
  have hwd2 : stores y3 h_ [.int .i64 (x + (u : Int)), .int .i64 (y + (v : Int))] 0 = wd := hwd
  have D1 : Blk wd h_ 67 #[.int .i64 (x + (u : Int)), .int .i64 (y + (v : Int))] := by rw [← hwd2]; exact BH.out.filled _ rfl
  have RD : Below w.heap.size w wd := by rw [← hwd2]; exact Below.stores (by omega) _ _ _ R4.out
  clear hwd hwd2
  have d1_0 : wd.cell? ⟨h_, 0, none⟩ = some (.int .i64 (x + (u : Int))) := D1.cell 0
  have d1_1 : wd.cell? ⟨h_, 1, none⟩ = some (.int .i64 (y + (v : Int))) := D1.cell 1
  try go_wp2_with fail
  refine bodyPost_ret (v := .tuple #[.agg #[.int .i64 (x + (u : Int)), .int .i64 (y + (v : Int))], .int .i64 0]) (by simp [results, Try.results58, go_sem, *]) rfl ⟨rfl, RD⟩
set_option maxRecDepth 100000 in
set_option maxHeartbeats 4000000 in
theorem widthI (x y : Int) (w : World) (h : spanOk x y) : Calls Try.prog 59 #[.agg #[.int .i64 x, .int .i64 y]] w fun e w' => e = .returned (.int .i64 (y - x)) ∧ Below w.heap.size w w' := by
  have e1 : decide (spanOk x y) = true := decide_eq_true h
  have t1 : -1152921504606846976 ≤ x ∧ x ≤ 1152921504606846976 := h.1
  have t2 : -1152921504606846976 ≤ y ∧ y ≤ 1152921504606846976 := h.2.1
  obtain ⟨a1, a2⟩ := t1
  obtain ⟨a3, a4⟩ := t2
  clear h
  go_enter Try.func59, Try.ntmps59
  go_upto_region 1 with fail
  obtain ⟨x1, s_, ex1, es_⟩ : ∃ x1 s_, x1 = w.alloc (.cells #[.int .i64 x, .int .i64 y] 67) ∧ s_ = w.heap.size := ⟨_, _, rfl, rfl⟩
  rw [← ex1, ← es_]
  have hbx : Below w.heap.size w x1 := by rw [ex1]; exact below_alloc1 _ _ 
  have g_S : w.heap.size ≤ s_ := by rw [es_]; exact Nat.le_refl _
  have BS := Lib.hid (show Blk x1 s_ 67 #[.int .i64 x, .int .i64 y] by rw [ex1, es_]; exact blk_new1_0 _ _ _ )
  have R2 := Lib.hid hbx
  have hz_x1 := R2.out.size
  clear hbx ex1 es_
  have kS_0 : x1.cell? ⟨s_, 0, none⟩ = some (.int .i64 x) := BS.out.cell 0
  have kS_1 : x1.cell? ⟨s_, 1, none⟩ = some (.int .i64 y) := BS.out.cell 1
  go_wp2_with fail
  refine (intervalV x y _).mono ?_
  rintro e y3 ⟨rfl, hb⟩
  clear kS_0 kS_1
  have hbx : Below x1.heap.size x1 y3 := below_via (by go_grown) hb (by first | (simp; done) | (simp; omega))
  have BS := Lib.hid (BS.out.stays hbx)
  have R4 := Lib.hid (R2.out.trans (hbx.mono hz_x1))
  have hz_y3 := R4.out.size
  clear hb hbx  R2 hz_x1
  rw [e1]
  have kS_0 : y3.cell? ⟨s_, 0, none⟩ = some (.int .i64 x) := BS.out.cell 0
  have kS_1 : y3.cell? ⟨s_, 1, none⟩ = some (.int .i64 y) := BS.out.cell 1
  go_wp2
  go_ret
  exact ⟨rfl, R4.out⟩
set_option maxRecDepth 100000 in
set_option maxHeartbeats 4000000 in
theorem holdsI (x y t : Int) (w : World) (h : spanOk x y) (h1 : x ≤ t) (h2 : t ≤ y) : Calls Try.prog 79 #[.agg #[.int .i64 x, .int .i64 y], .int .i64 t] w fun e w' => e = .returned (.bool true) ∧ Below w.heap.size w w' := by
  have e1 : decide (spanOk x y) = true := decide_eq_true h
  clear h
  go_enter Try.func79, Try.ntmps79
  go_upto_region 1 with fail
  obtain ⟨x1, s_, ex1, es_⟩ : ∃ x1 s_, x1 = w.alloc (.cells #[.int .i64 x, .int .i64 y] 67) ∧ s_ = w.heap.size := ⟨_, _, rfl, rfl⟩
  rw [← ex1, ← es_]
  have hbx : Below w.heap.size w x1 := by rw [ex1]; exact below_alloc1 _ _ 
  have g_S : w.heap.size ≤ s_ := by rw [es_]; exact Nat.le_refl _
  have BS := Lib.hid (show Blk x1 s_ 67 #[.int .i64 x, .int .i64 y] by rw [ex1, es_]; exact blk_new1_0 _ _ _ )
  have R2 := Lib.hid hbx
  have hz_x1 := R2.out.size
  clear hbx ex1 es_
  have kS_0 : x1.cell? ⟨s_, 0, none⟩ = some (.int .i64 x) := BS.out.cell 0
  have kS_1 : x1.cell? ⟨s_, 1, none⟩ = some (.int .i64 y) := BS.out.cell 1
  go_wp2_with fail
  refine (intervalV x y _).mono ?_
  rintro e y3 ⟨rfl, hb⟩
  clear kS_0 kS_1
  have hbx : Below x1.heap.size x1 y3 := below_via (by go_grown) hb (by first | (simp; done) | (simp; omega))
  have BS := Lib.hid (BS.out.stays hbx)
  have R4 := Lib.hid (R2.out.trans (hbx.mono hz_x1))
  have hz_y3 := R4.out.size
  clear hb hbx  R2 hz_x1
  rw [e1]
  have kS_0 : y3.cell? ⟨s_, 0, none⟩ = some (.int .i64 x) := BS.out.cell 0
  have kS_1 : y3.cell? ⟨s_, 1, none⟩ = some (.int .i64 y) := BS.out.cell 1
  go_wp2
  go_ret
  exact ⟨rfl, R4.out⟩
set_option maxRecDepth 100000 in
set_option maxHeartbeats 4000000 in
theorem holdsR (x y t : Int) (w : World) (h : spanOk x y) (h1 : x ≤ t) (h2 : t ≤ y) : Calls Try.prog 60 #[.agg #[.int .i64 x, .int .i64 y], .int .i64 t] w fun e w' => e = .returned (.bool true) ∧ Below w.heap.size w w' := by
  have e1 : decide (spanOk x y) = true := decide_eq_true h
  clear h
  go_enter Try.func60, Try.ntmps60
  go_upto_region 1 with fail
  obtain ⟨x1, s_, ex1, es_⟩ : ∃ x1 s_, x1 = w.alloc (.cells #[.int .i64 x, .int .i64 y] 67) ∧ s_ = w.heap.size := ⟨_, _, rfl, rfl⟩
  rw [← ex1, ← es_]
  have hbx : Below w.heap.size w x1 := by rw [ex1]; exact below_alloc1 _ _ 
  have g_S : w.heap.size ≤ s_ := by rw [es_]; exact Nat.le_refl _
  have BS := Lib.hid (show Blk x1 s_ 67 #[.int .i64 x, .int .i64 y] by rw [ex1, es_]; exact blk_new1_0 _ _ _ )
  have R2 := Lib.hid hbx
  have hz_x1 := R2.out.size
  clear hbx ex1 es_
  have kS_0 : x1.cell? ⟨s_, 0, none⟩ = some (.int .i64 x) := BS.out.cell 0
  have kS_1 : x1.cell? ⟨s_, 1, none⟩ = some (.int .i64 y) := BS.out.cell 1
  go_wp2_with fail
  refine (refSpanV x y _).mono ?_
  rintro e y3 ⟨rfl, hb⟩
  clear kS_0 kS_1
  have hbx : Below x1.heap.size x1 y3 := below_via (by go_grown) hb (by first | (simp; done) | (simp; omega))
  have BS := Lib.hid (BS.out.stays hbx)
  have R4 := Lib.hid (R2.out.trans (hbx.mono hz_x1))
  have hz_y3 := R4.out.size
  clear hb hbx  R2 hz_x1
  rw [e1]
  have kS_0 : y3.cell? ⟨s_, 0, none⟩ = some (.int .i64 x) := BS.out.cell 0
  have kS_1 : y3.cell? ⟨s_, 1, none⟩ = some (.int .i64 y) := BS.out.cell 1
  go_wp2
  go_ret
  exact ⟨rfl, R4.out⟩
end Go.Proofs.Ytofadjcphaehcaa
