/- sectimeworld.Span, the sanity check of TopHoldover. -/
import Derived.Test.YtofadjcphaehcaaEraU
namespace Go.Proofs.Ytofadjcphaehcaa
open Go Go.RowKit

def wLo (a : Int) : Int := a % 2000 - 1000
def wHi (a b : Int) : Int := wLo a + b % 500
theorem wLo_in (a : Int) : -1000 ≤ wLo a ∧ wLo a ≤ 999 := by unfold wLo; omega
theorem wHi_in (a b : Int) : wLo a ≤ wHi a b ∧ wHi a b ≤ wLo a + 499 := by unfold wHi; omega
set_option maxRecDepth 100000 in
set_option maxHeartbeats 4000000 in
theorem wspan_any (a b : Int) (w : World)  : Calls Try.prog 55 #[.int .i64 a, .int .i64 b] w fun e w' => e = .returned (.agg #[.int .i64 (wLo a), .int .i64 (wHi a b)]) ∧ Below w.heap.size w w' := by
  have r1 := wLo_in a
  have r2 := wHi_in a b
  obtain ⟨x, hx⟩ : ∃ x, wLo a = x := ⟨_, rfl⟩
  obtain ⟨y, hy⟩ : ∃ y, wHi a b = y := ⟨_, rfl⟩
  rw [hx] at r1 r2 ⊢
  rw [hy] at r2 ⊢
  have e1 : a % 2000 - 1000 = x := hx
  have e2 : x + b % 500 = y := by unfold wHi at hy; rw [hx] at hy; exact hy
  clear hx hy
  go_enter Try.func55, Try.ntmps55
  go_upto_region 1 with fail
  obtain ⟨x1, h_, ex1, eh_⟩ : ∃ x1 h_, x1 = w.alloc (.cells #[.int .i64 0, .int .i64 0] 67) ∧ h_ = w.heap.size := ⟨_, _, rfl, rfl⟩
  rw [← ex1, ← eh_]
  have hbx : Below w.heap.size w x1 := by rw [ex1]; exact below_alloc1 _ _ 
  have g_H : w.heap.size ≤ h_ := by rw [eh_]; exact Nat.le_refl _
  have BH := Lib.hid (show Blk x1 h_ 67 #[.int .i64 0, .int .i64 0] by rw [ex1, eh_]; exact blk_new1_0 _ _ _ )
  have R2 := Lib.hid hbx
  have hz_x1 := R2.out.size
  clear hbx ex1 eh_
  go_wp2_with fail
  refine (within_any a 2000 (by decide) (by decide) _).mono ?_
  rintro e q_ ⟨rfl, rfl⟩
  go_wp2_with fail
  refine (within_any b 500 (by decide) (by decide) _).mono ?_
  rintro e q_ ⟨rfl, rfl⟩
  have cH := BH.out.cell
  have zH := BH.out.frozen
  go_wp2
  clear zH cH
  generalize hwd : World.setCell _ ⟨h_, 1, none⟩ _ = wd
  have hwd2 : stores x1 h_ [.int .i64 x, .int .i64 y] 0 = wd := hwd
  have D1 : Blk wd h_ 67 #[.int .i64 x, .int .i64 y] := by rw [← hwd2]; exact BH.out.filled _ rfl
  have RD : Below w.heap.size w wd := by rw [← hwd2]; exact Below.stores (by omega) _ _ _ R2.out
  clear hwd hwd2
  have d1_0 : wd.cell? ⟨h_, 0, none⟩ = some (.int .i64 x) := D1.cell 0
  have d1_1 : wd.cell? ⟨h_, 1, none⟩ = some (.int .i64 y) := D1.cell 1
  try go_wp2_with fail
  refine bodyPost_ret (v := .agg #[.int .i64 x, .int .i64 y]) (by simp [results, Try.results55, go_sem, *]) rfl ⟨rfl, RD⟩
set_option maxRecDepth 100000 in
set_option maxHeartbeats 4000000 in
theorem roused15_ok  (w : World)  : Calls Try.prog 54 #[] w fun e w' => e = .returned (.bool true) ∧ Below w.heap.size w w' := by
  have CW := Lib.hid (fun w => wire_ok 5242880 w (by decide))
  have CO := Lib.hid (fun w => only_one 0 9437184 5242880 w (by decide) (by decide) (by decide) (by decide))
  have l1 : eLo 1048576 1000 = 1048574 := by decide +kernel
  have l2 : eHi 1048576 1000 = 1048578 := by decide +kernel
  have CP : Hid (∀ w, _) := Lib.hid (fun w => project15 5242880 5242880 1048576 1000 w (by decide) (by decide) (by decide) (by rw [l1, l2]; decide))
  rw [l1, l2] at CP
  obtain ⟨W, hW⟩ : ∃ W, eraD 5242880 * 4096 = W := ⟨_, rfl⟩
  rw [hW] at CW CO
  clear hW l1 l2
  go_enter Try.func54, Try.ntmps54
  go_wp2_with fail
  refine (CW.out _).mono ?_
  rintro e q_ ⟨rfl, rfl⟩
  go_wp2_with fail
  refine (CO.out _).mono ?_
  rintro e y1 ⟨rfl, hb⟩
  have hbx : Below w.heap.size w y1 := below_via (by go_grown) hb (by first | (simp; done) | (simp; omega))
  have R2 := Lib.hid hbx
  have hz_y1 := R2.out.size
  clear hb hbx 
  go_upto_region 3 with fail
  obtain ⟨x3, s_, ex3, es_⟩ : ∃ x3 s_, x3 = y1.alloc (.cells #[.int .i64 5242880, .int .i64 5242880] 67) ∧ s_ = y1.heap.size := ⟨_, _, rfl, rfl⟩
  rw [← ex3, ← es_]
  have hbx : Below y1.heap.size y1 x3 := by rw [ex3]; exact below_alloc1 _ _ 
  have g_S : w.heap.size ≤ s_ := by rw [es_]; exact hz_y1
  have BS := Lib.hid (show Blk x3 s_ 67 #[.int .i64 5242880, .int .i64 5242880] by rw [ex3, es_]; exact blk_new1_0 _ _ _ )
  have R4 := Lib.hid (R2.out.trans (hbx.mono hz_y1))
  have hz_x3 := R4.out.size
  clear hbx ex3 es_ R2 hz_y1
  have kS_0 : x3.cell? ⟨s_, 0, none⟩ = some (.int .i64 5242880) := BS.out.cell 0
  have kS_1 : x3.cell? ⟨s_, 1, none⟩ = some (.int .i64 5242880) := BS.out.cell 1
  go_wp2_with fail
  refine (CP.out _).mono ?_
  rintro e y5 ⟨rfl, hb⟩
  clear kS_0 kS_1
  have hbx : Below x3.heap.size x3 y5 := below_via (by go_grown) hb (by first | (simp; done) | (simp; omega))
  have BS := Lib.hid (BS.out.stays hbx)
  have R6 := Lib.hid (R4.out.trans (hbx.mono hz_x3))
  have hz_y5 := R6.out.size
  clear hb hbx  R4 hz_x3
  go_upto_region 4 with fail
  obtain ⟨x7, p_, ex7, ep_⟩ : ∃ x7 p_, x7 = y5.alloc (.cells #[.int .i64 6291454, .int .i64 6291458] 67) ∧ p_ = y5.heap.size := ⟨_, _, rfl, rfl⟩
  rw [← ex7, ← ep_]
  have hbx : Below y5.heap.size y5 x7 := by rw [ex7]; exact below_alloc1 _ _ 
  have o_S_P : s_ < p_ := by rw [ep_]; exact BS.out.lt
  have g_P : w.heap.size ≤ p_ := by rw [ep_]; exact hz_y5
  have BS := Lib.hid (BS.out.stays hbx)
  have BP := Lib.hid (show Blk x7 p_ 67 #[.int .i64 6291454, .int .i64 6291458] by rw [ex7, ep_]; exact blk_new1_0 _ _ _ )
  have R8 := Lib.hid (R6.out.trans (hbx.mono hz_y5))
  have hz_x7 := R8.out.size
  clear hbx ex7 ep_ R6 hz_y5
  have kS_0 : x7.cell? ⟨s_, 0, none⟩ = some (.int .i64 5242880) := BS.out.cell 0
  have kS_1 : x7.cell? ⟨s_, 1, none⟩ = some (.int .i64 5242880) := BS.out.cell 1
  have kP_0 : x7.cell? ⟨p_, 0, none⟩ = some (.int .i64 6291454) := BP.out.cell 0
  have kP_1 : x7.cell? ⟨p_, 1, none⟩ = some (.int .i64 6291458) := BP.out.cell 1
  go_wp2_with fail
  refine (holdsI 6291454 6291458 6291456 _ (by decide) (by decide) (by decide)).mono ?_
  rintro e y9 ⟨rfl, hb⟩
  clear kS_0 kS_1 kP_0 kP_1
  have hbx : Below x7.heap.size x7 y9 := below_via (by go_grown) hb (by first | (simp; done) | (simp; omega))
  have BS := Lib.hid (BS.out.stays hbx)
  have BP := Lib.hid (BP.out.stays hbx)
  have R10 := Lib.hid (R8.out.trans (hbx.mono hz_x7))
  have hz_y9 := R10.out.size
  clear hb hbx  R8 hz_x7
  have kP_0 : y9.cell? ⟨p_, 0, none⟩ = some (.int .i64 6291454) := BP.out.cell 0
  have kP_1 : y9.cell? ⟨p_, 1, none⟩ = some (.int .i64 6291458) := BP.out.cell 1
  go_wp2
  go_ret
  exact ⟨rfl, R10.out⟩
end Go.Proofs.Ytofadjcphaehcaa
