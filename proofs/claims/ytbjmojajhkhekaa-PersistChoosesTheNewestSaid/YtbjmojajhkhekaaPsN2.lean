/- PersistChoosesTheNewest: how % 5 = 1. -/
import Derived.Test.YtbjmojajhkhekaaPsN0
namespace Go.Proofs.Ytbjmojajhkhekaa
open Go.RowKit

set_option maxRecDepth 100000 in
set_option maxHeartbeats 4000000 in
theorem persistNewest_1 (A0 : Option Addr) (n0 c0 : Nat) (l : List Int) (x y z : Int) (w : World) (hv : Rd w 1 A0 n0 c0 (l.map (Value.int .i64))) (hz : z % 5 = 1) :
    Calls Try.prog 7 #[.slice A0 n0 c0, .int .i64 x, .int .i64 y, .int .i64 z] w fun e w' => e = .returned (.bool true) ∧ Below w.heap.size w w' := by
  have V0 := Lib.hid hv
  have HZ := Lib.hid hz
  clear hz
  have q1 := hv.2.1
  have q2 : c0 ≤ 9223372036854775807 := by have := hv.2.2.1; unfold maxLen at this; omega
  clear hv
  go_enter Try.func7, Try.ntmps7
  go_wp2_with fail
  refine (tape_new A0 n0 c0 l _ V0.out (by omega)).mono ?_
  rintro e y1 ⟨tb, rfl, ht, hb⟩
  have hbx : Below w.heap.size w y1 := below_via (by go_grown) hb (by first | (simp; done) | (simp; omega))
  have T := Lib.hid ht
  have R2 := Lib.hid hbx
  have hz_y1 := R2.out.size
  clear hb hbx ht
  have tge : w.heap.size ≤ tb := T.out.ge
  have tlt := T.out.lt
  have O : Hid (y1.grownBy y1 (some tb)) := World.grownBy.refl _ _
  have hk0 : True := trivial
  go_wp2_with fail
  refine (made_any _ _ _ _ _ T.out).mono ?_
  rintro e y3 ⟨cn, at_, lo, hi, pp, le, re, kk4, rfl, hm, ht, ho⟩
  have O := Lib.hid (O.out.trans ho)
  have T := Lib.hid ht
  clear ht ho
  have M1 := Lib.hid hm
  clear hm
  go_wp2_with fail
  refine (made_any _ _ _ _ _ T.out).mono ?_
  rintro e y5 ⟨cn2, at2, lo2, hi2, pp2, le2, re2, kk6, rfl, hm, ht, ho⟩
  have O := Lib.hid (O.out.trans ho)
  have T := Lib.hid ht
  clear ht ho
  have M2 := Lib.hid hm
  clear hm
  have R7 := Lib.hid (R2.out.trans ((Below.refl _ y1).grown O.out hz_y1 (fun k hk => by simp at hk; subst hk; exact tge)))
  have hz_y5 := R7.out.size
  clear O T R2 hz_y1 tge tlt
  go_upto_region 3 with fail
  obtain ⟨x8, s_, u_, ex8, es_, eu_⟩ : ∃ x8 s_ u_, x8 = (y5.alloc (.cells #[.int .i64 cn, .int .i64 at_, .int .i64 lo, .int .i64 hi, .int .i64 pp, .int .i64 le, .int .i64 re] 41)).alloc (.cells #[.int .i64 cn2, .int .i64 at2, .int .i64 lo2, .int .i64 hi2, .int .i64 pp2, .int .i64 le2, .int .i64 re2] 41) ∧ s_ = y5.heap.size ∧ u_ = y5.heap.size + 1 := ⟨_, _, _, rfl, rfl, rfl⟩
  rw [← ex8, ← eu_, ← es_]
  have hbx : Below y5.heap.size y5 x8 := by rw [ex8]; exact below_alloc2 _ _ _ 
  have o_S_U : s_ < u_ := by omega
  have g_S : w.heap.size ≤ s_ := by rw [es_]; exact hz_y5
  have BS := Lib.hid (show Blk x8 s_ 41 #[.int .i64 cn, .int .i64 at_, .int .i64 lo, .int .i64 hi, .int .i64 pp, .int .i64 le, .int .i64 re] by rw [ex8, es_]; exact blk_new2_0 _ _ _ _ _ )
  have BU := Lib.hid (show Blk x8 u_ 41 #[.int .i64 cn2, .int .i64 at2, .int .i64 lo2, .int .i64 hi2, .int .i64 pp2, .int .i64 le2, .int .i64 re2] by rw [ex8, eu_]; exact blk_new2_1 _ _ _ _ _ )
  have R9 := Lib.hid (R7.out.trans (hbx.mono hz_y5))
  have hz_x8 := R9.out.size
  clear hbx ex8 es_ eu_ R7 hz_y5
  have kS_0 : x8.cell? ⟨s_, 0, none⟩ = some (.int .i64 cn) := BS.out.cell 0
  have kS_1 : x8.cell? ⟨s_, 1, none⟩ = some (.int .i64 at_) := BS.out.cell 1
  have kS_2 : x8.cell? ⟨s_, 2, none⟩ = some (.int .i64 lo) := BS.out.cell 2
  have kS_3 : x8.cell? ⟨s_, 3, none⟩ = some (.int .i64 hi) := BS.out.cell 3
  have kS_4 : x8.cell? ⟨s_, 4, none⟩ = some (.int .i64 pp) := BS.out.cell 4
  have kS_5 : x8.cell? ⟨s_, 5, none⟩ = some (.int .i64 le) := BS.out.cell 5
  have kS_6 : x8.cell? ⟨s_, 6, none⟩ = some (.int .i64 re) := BS.out.cell 6
  go_wp2_with fail
  refine (refSave_ok cn at_ lo hi pp le re _ M1.out.sv).mono ?_
  rintro e y10 ⟨A1, c1, rfl, hv, hb⟩
  clear kS_0 kS_1 kS_2 kS_3 kS_4 kS_5 kS_6
  have hbx : Below x8.heap.size x8 y10 := below_via (by go_grown) hb (by first | (simp; done) | (simp; omega))
  have BS := Lib.hid (BS.out.stays hbx)
  have BU := Lib.hid (BU.out.stays hbx)
  have VA := Lib.hid hv
  have R11 := Lib.hid (R9.out.trans (hbx.mono hz_x8))
  have hz_y10 := R11.out.size
  clear hb hbx hv R9 hz_x8
  have kU_0 : y10.cell? ⟨u_, 0, none⟩ = some (.int .i64 cn2) := BU.out.cell 0
  have kU_1 : y10.cell? ⟨u_, 1, none⟩ = some (.int .i64 at2) := BU.out.cell 1
  have kU_2 : y10.cell? ⟨u_, 2, none⟩ = some (.int .i64 lo2) := BU.out.cell 2
  have kU_3 : y10.cell? ⟨u_, 3, none⟩ = some (.int .i64 hi2) := BU.out.cell 3
  have kU_4 : y10.cell? ⟨u_, 4, none⟩ = some (.int .i64 pp2) := BU.out.cell 4
  have kU_5 : y10.cell? ⟨u_, 5, none⟩ = some (.int .i64 le2) := BU.out.cell 5
  have kU_6 : y10.cell? ⟨u_, 6, none⟩ = some (.int .i64 re2) := BU.out.cell 6
  go_wp2_with fail
  refine (refSave_ok cn2 at2 lo2 hi2 pp2 le2 re2 _ M2.out.sv).mono ?_
  rintro e y12 ⟨A2, c2, rfl, hv, hb⟩
  clear kU_0 kU_1 kU_2 kU_3 kU_4 kU_5 kU_6
  have hbx : Below y10.heap.size y10 y12 := below_via (by go_grown) hb (by first | (simp; done) | (simp; omega))
  have BS := Lib.hid (BS.out.stays hbx)
  have BU := Lib.hid (BU.out.stays hbx)
  have VA := Lib.hid (VA.out.stays hbx)
  have VB := Lib.hid hv
  have R13 := Lib.hid (R11.out.trans (hbx.mono hz_y10))
  have hz_y12 := R13.out.size
  clear hb hbx hv R11 hz_y10
  have va1 := VA.out.le
  have va2 := VA.out.cap
  have vb1 := VB.out.le
  have vb2 := VB.out.cap
  obtain ⟨la, hla⟩ : ∃ la, saveL [cn, at_, lo, hi, pp, le, re] = la := ⟨_, rfl⟩
  rw [hla] at VA
  obtain ⟨lb, hlb⟩ : ∃ lb, saveL [cn2, at2, lo2, hi2, pp2, le2, re2] = lb := ⟨_, rfl⟩
  rw [hlb] at VB
  clear hla hlb M1 M2
  go_wp2_with fail
  refine (within_any z 5 (by decide) (by decide) _).mono ?_
  rintro e q_ ⟨rfl, rfl⟩
  rw [HZ.out]
  go_upto_region 6 with fail
  obtain ⟨lf, hlf, cf⟩ := flip_any w lb 80 VB.out.len (by decide) x y
  have CF := Lib.hid cf
  have HLF := Lib.hid hlf
  clear cf hlf
  go_wp2_with fail
  refine (CF.out A2 c2 _ VB.out).mono ?_
  rintro e y14 ⟨A3, c3, rfl, hv, hf, hb⟩
  have hbx : Below y12.heap.size y12 y14 := below_via (by go_grown) hb (by first | (simp; done) | (simp; omega))
  have BS := Lib.hid (BS.out.stays hbx)
  have BU := Lib.hid (BU.out.stays hbx)
  have VA := Lib.hid (VA.out.stays hbx)
  have VB := Lib.hid (VB.out.stays hbx)
  have VB := Lib.hid hv
  have R15 := Lib.hid (R13.out.trans (hbx.mono hz_y12))
  have hz_y14 := R15.out.size
  clear hb hbx hv R13 hz_y12
  clear hf
  have va3 := VB.out.le
  have va4 := VB.out.cap
  go_wp2_with fail
  refine (new_any A1 80 c1 la A3 80 c3 lf _ VA.out VB.out).mono ?_
  rintro e y16 ⟨rfl, hb⟩
  have hbx : Below y14.heap.size y14 y16 := below_via (by go_grown) hb (by first | (simp; done) | (simp; omega))
  have BS := Lib.hid (BS.out.stays hbx)
  have BU := Lib.hid (BU.out.stays hbx)
  have VA := Lib.hid (VA.out.stays hbx)
  have VB := Lib.hid (VB.out.stays hbx)
  have R17 := Lib.hid (R15.out.trans (hbx.mono hz_y14))
  have hz_y16 := R17.out.size
  clear hb hbx  R15 hz_y14
  go_upto_region 15 with fail
  obtain ⟨x18, x_, ex18, ex_⟩ : ∃ x18 x_, x18 = y16.alloc (.cells #[.int .i64 (nvN la lf 0), .int .i64 (nvN la lf 1), .int .i64 (nvN la lf 2), .int .i64 (nvN la lf 3), .int .i64 (nvN la lf 4), .int .i64 (nvN la lf 5), .int .i64 (nvN la lf 6)] 41) ∧ x_ = y16.heap.size := ⟨_, _, rfl, rfl⟩
  rw [← ex18, ← ex_]
  have hbx : Below y16.heap.size y16 x18 := by rw [ex18]; exact below_alloc1 _ _ 
  have o_S_X : s_ < x_ := by rw [ex_]; exact BS.out.lt
  have o_U_X : u_ < x_ := by rw [ex_]; exact BU.out.lt
  have g_X : w.heap.size ≤ x_ := by rw [ex_]; exact hz_y16
  have BS := Lib.hid (BS.out.stays hbx)
  have BU := Lib.hid (BU.out.stays hbx)
  have VA := Lib.hid (VA.out.stays hbx)
  have VB := Lib.hid (VB.out.stays hbx)
  have BX := Lib.hid (show Blk x18 x_ 41 #[.int .i64 (nvN la lf 0), .int .i64 (nvN la lf 1), .int .i64 (nvN la lf 2), .int .i64 (nvN la lf 3), .int .i64 (nvN la lf 4), .int .i64 (nvN la lf 5), .int .i64 (nvN la lf 6)] by rw [ex18, ex_]; exact blk_new1_0 _ _ _ )
  have R19 := Lib.hid (R17.out.trans (hbx.mono hz_y16))
  have hz_x18 := R19.out.size
  clear hbx ex18 ex_ R17 hz_y16
  go_wp2_with fail
  refine (refNew_any A1 80 c1 la A3 80 c3 lf _ VA.out VB.out).mono ?_
  rintro e y20 ⟨rfl, hb⟩
  have hbx : Below x18.heap.size x18 y20 := below_via (by go_grown) hb (by first | (simp; done) | (simp; omega))
  have BS := Lib.hid (BS.out.stays hbx)
  have BU := Lib.hid (BU.out.stays hbx)
  have BX := Lib.hid (BX.out.stays hbx)
  have VA := Lib.hid (VA.out.stays hbx)
  have VB := Lib.hid (VB.out.stays hbx)
  have R21 := Lib.hid (R19.out.trans (hbx.mono hz_x18))
  have hz_y20 := R21.out.size
  clear hb hbx  R19 hz_x18
  go_upto_region 16 with fail
  obtain ⟨x22, y_, ex22, ey_⟩ : ∃ x22 y_, x22 = y20.alloc (.cells #[.int .i64 (nvN la lf 0), .int .i64 (nvN la lf 1), .int .i64 (nvN la lf 2), .int .i64 (nvN la lf 3), .int .i64 (nvN la lf 4), .int .i64 (nvN la lf 5), .int .i64 (nvN la lf 6)] 41) ∧ y_ = y20.heap.size := ⟨_, _, rfl, rfl⟩
  rw [← ex22, ← ey_]
  have hbx : Below y20.heap.size y20 x22 := by rw [ex22]; exact below_alloc1 _ _ 
  have o_S_Y : s_ < y_ := by rw [ey_]; exact BS.out.lt
  have o_U_Y : u_ < y_ := by rw [ey_]; exact BU.out.lt
  have o_X_Y : x_ < y_ := by rw [ey_]; exact BX.out.lt
  have g_Y : w.heap.size ≤ y_ := by rw [ey_]; exact hz_y20
  have BS := Lib.hid (BS.out.stays hbx)
  have BU := Lib.hid (BU.out.stays hbx)
  have BX := Lib.hid (BX.out.stays hbx)
  have VA := Lib.hid (VA.out.stays hbx)
  have VB := Lib.hid (VB.out.stays hbx)
  have BY := Lib.hid (show Blk x22 y_ 41 #[.int .i64 (nvN la lf 0), .int .i64 (nvN la lf 1), .int .i64 (nvN la lf 2), .int .i64 (nvN la lf 3), .int .i64 (nvN la lf 4), .int .i64 (nvN la lf 5), .int .i64 (nvN la lf 6)] by rw [ex22, ey_]; exact blk_new1_0 _ _ _ )
  have R23 := Lib.hid (R21.out.trans (hbx.mono hz_y20))
  have hz_x22 := R23.out.size
  clear hbx ex22 ey_ R21 hz_y20
  go_wp2_with fail
  refine (new_any A3 80 c3 lf none 0 0 [] _ VB.out (Bytes.nil _ _ _ (by decide))).mono ?_
  rintro e y24 ⟨rfl, hb⟩
  have hbx : Below x22.heap.size x22 y24 := below_via (by go_grown) hb (by first | (simp; done) | (simp; omega))
  have BS := Lib.hid (BS.out.stays hbx)
  have BU := Lib.hid (BU.out.stays hbx)
  have BX := Lib.hid (BX.out.stays hbx)
  have BY := Lib.hid (BY.out.stays hbx)
  have VA := Lib.hid (VA.out.stays hbx)
  have VB := Lib.hid (VB.out.stays hbx)
  have R25 := Lib.hid (R23.out.trans (hbx.mono hz_x22))
  have hz_y24 := R25.out.size
  clear hb hbx  R23 hz_x22
  obtain ⟨e1, e2, e3⟩ := new_nil lf
  rw [e2, e1 0 (by decide), e1 1 (by decide), e1 2 (by decide), e1 3 (by decide), e1 4 (by decide), e1 5 (by decide), e1 6 (by decide)]
  have HE3 := Lib.hid e3
  clear e1 e2 e3
  go_upto_region 17 with fail
  obtain ⟨x26, z_, ex26, ez_⟩ : ∃ x26 z_, x26 = y24.alloc (.cells #[.int .i64 (lvN lf 0), .int .i64 (lvN lf 1), .int .i64 (lvN lf 2), .int .i64 (lvN lf 3), .int .i64 (lvN lf 4), .int .i64 (lvN lf 5), .int .i64 (lvN lf 6)] 41) ∧ z_ = y24.heap.size := ⟨_, _, rfl, rfl⟩
  rw [← ex26, ← ez_]
  have hbx : Below y24.heap.size y24 x26 := by rw [ex26]; exact below_alloc1 _ _ 
  have o_S_Z : s_ < z_ := by rw [ez_]; exact BS.out.lt
  have o_U_Z : u_ < z_ := by rw [ez_]; exact BU.out.lt
  have o_X_Z : x_ < z_ := by rw [ez_]; exact BX.out.lt
  have o_Y_Z : y_ < z_ := by rw [ez_]; exact BY.out.lt
  have g_Z : w.heap.size ≤ z_ := by rw [ez_]; exact hz_y24
  have BS := Lib.hid (BS.out.stays hbx)
  have BU := Lib.hid (BU.out.stays hbx)
  have BX := Lib.hid (BX.out.stays hbx)
  have BY := Lib.hid (BY.out.stays hbx)
  have VA := Lib.hid (VA.out.stays hbx)
  have VB := Lib.hid (VB.out.stays hbx)
  have BZ := Lib.hid (show Blk x26 z_ 41 #[.int .i64 (lvN lf 0), .int .i64 (lvN lf 1), .int .i64 (lvN lf 2), .int .i64 (lvN lf 3), .int .i64 (lvN lf 4), .int .i64 (lvN lf 5), .int .i64 (lvN lf 6)] by rw [ex26, ez_]; exact blk_new1_0 _ _ _ )
  have R27 := Lib.hid (R25.out.trans (hbx.mono hz_y24))
  have hz_x26 := R27.out.size
  clear hbx ex26 ez_ R25 hz_y24
  go_wp2_with fail
  refine (load_any A3 80 c3 lf _ VB.out).mono ?_
  rintro e y28 ⟨rfl, hb⟩
  have hbx : Below x26.heap.size x26 y28 := below_via (by go_grown) hb (by first | (simp; done) | (simp; omega))
  have BS := Lib.hid (BS.out.stays hbx)
  have BU := Lib.hid (BU.out.stays hbx)
  have BX := Lib.hid (BX.out.stays hbx)
  have BY := Lib.hid (BY.out.stays hbx)
  have BZ := Lib.hid (BZ.out.stays hbx)
  have VA := Lib.hid (VA.out.stays hbx)
  have VB := Lib.hid (VB.out.stays hbx)
  have R29 := Lib.hid (R27.out.trans (hbx.mono hz_x26))
  have hz_y28 := R29.out.size
  clear hb hbx  R27 hz_x26
  go_upto_region 18 with fail
  obtain ⟨x30, q_, ex30, eq_⟩ : ∃ x30 q_, x30 = y28.alloc (.cells #[.int .i64 (lvN lf 0), .int .i64 (lvN lf 1), .int .i64 (lvN lf 2), .int .i64 (lvN lf 3), .int .i64 (lvN lf 4), .int .i64 (lvN lf 5), .int .i64 (lvN lf 6)] 41) ∧ q_ = y28.heap.size := ⟨_, _, rfl, rfl⟩
  rw [← ex30, ← eq_]
  have hbx : Below y28.heap.size y28 x30 := by rw [ex30]; exact below_alloc1 _ _ 
  have o_S_Q : s_ < q_ := by rw [eq_]; exact BS.out.lt
  have o_U_Q : u_ < q_ := by rw [eq_]; exact BU.out.lt
  have o_X_Q : x_ < q_ := by rw [eq_]; exact BX.out.lt
  have o_Y_Q : y_ < q_ := by rw [eq_]; exact BY.out.lt
  have o_Z_Q : z_ < q_ := by rw [eq_]; exact BZ.out.lt
  have g_Q : w.heap.size ≤ q_ := by rw [eq_]; exact hz_y28
  have BS := Lib.hid (BS.out.stays hbx)
  have BU := Lib.hid (BU.out.stays hbx)
  have BX := Lib.hid (BX.out.stays hbx)
  have BY := Lib.hid (BY.out.stays hbx)
  have BZ := Lib.hid (BZ.out.stays hbx)
  have VA := Lib.hid (VA.out.stays hbx)
  have VB := Lib.hid (VB.out.stays hbx)
  have BQ := Lib.hid (show Blk x30 q_ 41 #[.int .i64 (lvN lf 0), .int .i64 (lvN lf 1), .int .i64 (lvN lf 2), .int .i64 (lvN lf 3), .int .i64 (lvN lf 4), .int .i64 (lvN lf 5), .int .i64 (lvN lf 6)] by rw [ex30, eq_]; exact blk_new1_0 _ _ _ )
  have R31 := Lib.hid (R29.out.trans (hbx.mono hz_y28))
  have hz_x30 := R31.out.size
  clear hbx ex30 eq_ R29 hz_y28
  go_wp2_with fail
  refine (psKnown _).mono ?_
  rintro e y32 ⟨rfl, hb⟩
  have hbx : Below x30.heap.size x30 y32 := below_via (by go_grown) hb (by first | (simp; done) | (simp; omega))
  have BS := Lib.hid (BS.out.stays hbx)
  have BU := Lib.hid (BU.out.stays hbx)
  have BX := Lib.hid (BX.out.stays hbx)
  have BY := Lib.hid (BY.out.stays hbx)
  have BZ := Lib.hid (BZ.out.stays hbx)
  have BQ := Lib.hid (BQ.out.stays hbx)
  have VA := Lib.hid (VA.out.stays hbx)
  have VB := Lib.hid (VB.out.stays hbx)
  have R33 := Lib.hid (R31.out.trans (hbx.mono hz_x30))
  have hz_y32 := R33.out.size
  clear hb hbx  R31 hz_x30
  obtain ⟨g1, hg1⟩ : ∃ g, nvE lf [] = g := ⟨_, rfl⟩
  obtain ⟨g2, hg2⟩ : ∃ g, lvE lf = g := ⟨_, rfl⟩
  rw [hg1, hg2]
  rw [hg1, hg2] at HE3
  generalize nvN la lf 0 = p0 at *
  generalize lvN lf 0 = r0 at *
  generalize nvN la lf 1 = p1 at *
  generalize lvN lf 1 = r1 at *
  generalize nvN la lf 2 = p2 at *
  generalize lvN lf 2 = r2 at *
  generalize nvN la lf 3 = p3 at *
  generalize lvN lf 3 = r3 at *
  generalize nvN la lf 4 = p4 at *
  generalize lvN lf 4 = r4 at *
  generalize nvN la lf 5 = p5 at *
  generalize lvN lf 5 = r5 at *
  generalize nvN la lf 6 = p6 at *
  generalize lvN lf 6 = r6 at *
  generalize nvW la lf = pw at *
  generalize nvE la lf = pe at *
  clear hg1 hg2
  by_cases h0 : g2 = 0
  · have k1 : (g2 == 0) = true := by simpa using h0
    have k2 : (g1 == 0) = true := by have h5 := HE3.out.2 h0; simpa using h5
    clear h0 HE3
    have kX_0 : y32.cell? ⟨x_, 0, none⟩ = some (.int .i64 p0) := BX.out.cell 0
    have kX_1 : y32.cell? ⟨x_, 1, none⟩ = some (.int .i64 p1) := BX.out.cell 1
    have kX_2 : y32.cell? ⟨x_, 2, none⟩ = some (.int .i64 p2) := BX.out.cell 2
    have kX_3 : y32.cell? ⟨x_, 3, none⟩ = some (.int .i64 p3) := BX.out.cell 3
    have kX_4 : y32.cell? ⟨x_, 4, none⟩ = some (.int .i64 p4) := BX.out.cell 4
    have kX_5 : y32.cell? ⟨x_, 5, none⟩ = some (.int .i64 p5) := BX.out.cell 5
    have kX_6 : y32.cell? ⟨x_, 6, none⟩ = some (.int .i64 p6) := BX.out.cell 6
    have kY_0 : y32.cell? ⟨y_, 0, none⟩ = some (.int .i64 p0) := BY.out.cell 0
    have kY_1 : y32.cell? ⟨y_, 1, none⟩ = some (.int .i64 p1) := BY.out.cell 1
    have kY_2 : y32.cell? ⟨y_, 2, none⟩ = some (.int .i64 p2) := BY.out.cell 2
    have kY_3 : y32.cell? ⟨y_, 3, none⟩ = some (.int .i64 p3) := BY.out.cell 3
    have kY_4 : y32.cell? ⟨y_, 4, none⟩ = some (.int .i64 p4) := BY.out.cell 4
    have kY_5 : y32.cell? ⟨y_, 5, none⟩ = some (.int .i64 p5) := BY.out.cell 5
    have kY_6 : y32.cell? ⟨y_, 6, none⟩ = some (.int .i64 p6) := BY.out.cell 6
    have kZ_0 : y32.cell? ⟨z_, 0, none⟩ = some (.int .i64 r0) := BZ.out.cell 0
    have kZ_1 : y32.cell? ⟨z_, 1, none⟩ = some (.int .i64 r1) := BZ.out.cell 1
    have kZ_2 : y32.cell? ⟨z_, 2, none⟩ = some (.int .i64 r2) := BZ.out.cell 2
    have kZ_3 : y32.cell? ⟨z_, 3, none⟩ = some (.int .i64 r3) := BZ.out.cell 3
    have kZ_4 : y32.cell? ⟨z_, 4, none⟩ = some (.int .i64 r4) := BZ.out.cell 4
    have kZ_5 : y32.cell? ⟨z_, 5, none⟩ = some (.int .i64 r5) := BZ.out.cell 5
    have kZ_6 : y32.cell? ⟨z_, 6, none⟩ = some (.int .i64 r6) := BZ.out.cell 6
    have kQ_0 : y32.cell? ⟨q_, 0, none⟩ = some (.int .i64 r0) := BQ.out.cell 0
    have kQ_1 : y32.cell? ⟨q_, 1, none⟩ = some (.int .i64 r1) := BQ.out.cell 1
    have kQ_2 : y32.cell? ⟨q_, 2, none⟩ = some (.int .i64 r2) := BQ.out.cell 2
    have kQ_3 : y32.cell? ⟨q_, 3, none⟩ = some (.int .i64 r3) := BQ.out.cell 3
    have kQ_4 : y32.cell? ⟨q_, 4, none⟩ = some (.int .i64 r4) := BQ.out.cell 4
    have kQ_5 : y32.cell? ⟨q_, 5, none⟩ = some (.int .i64 r5) := BQ.out.cell 5
    have kQ_6 : y32.cell? ⟨q_, 6, none⟩ = some (.int .i64 r6) := BQ.out.cell 6
    go_wp2
    go_ret
    exact ⟨rfl, R33.out⟩
  · have k1 : (g2 == 0) = false := by simpa using h0
    have k2 : (g1 == 0) = false := by have h5 := fun g => h0 (HE3.out.1 g); simpa using h5
    clear h0 HE3
    have kX_0 : y32.cell? ⟨x_, 0, none⟩ = some (.int .i64 p0) := BX.out.cell 0
    have kX_1 : y32.cell? ⟨x_, 1, none⟩ = some (.int .i64 p1) := BX.out.cell 1
    have kX_2 : y32.cell? ⟨x_, 2, none⟩ = some (.int .i64 p2) := BX.out.cell 2
    have kX_3 : y32.cell? ⟨x_, 3, none⟩ = some (.int .i64 p3) := BX.out.cell 3
    have kX_4 : y32.cell? ⟨x_, 4, none⟩ = some (.int .i64 p4) := BX.out.cell 4
    have kX_5 : y32.cell? ⟨x_, 5, none⟩ = some (.int .i64 p5) := BX.out.cell 5
    have kX_6 : y32.cell? ⟨x_, 6, none⟩ = some (.int .i64 p6) := BX.out.cell 6
    have kY_0 : y32.cell? ⟨y_, 0, none⟩ = some (.int .i64 p0) := BY.out.cell 0
    have kY_1 : y32.cell? ⟨y_, 1, none⟩ = some (.int .i64 p1) := BY.out.cell 1
    have kY_2 : y32.cell? ⟨y_, 2, none⟩ = some (.int .i64 p2) := BY.out.cell 2
    have kY_3 : y32.cell? ⟨y_, 3, none⟩ = some (.int .i64 p3) := BY.out.cell 3
    have kY_4 : y32.cell? ⟨y_, 4, none⟩ = some (.int .i64 p4) := BY.out.cell 4
    have kY_5 : y32.cell? ⟨y_, 5, none⟩ = some (.int .i64 p5) := BY.out.cell 5
    have kY_6 : y32.cell? ⟨y_, 6, none⟩ = some (.int .i64 p6) := BY.out.cell 6
    have kZ_0 : y32.cell? ⟨z_, 0, none⟩ = some (.int .i64 r0) := BZ.out.cell 0
    have kZ_1 : y32.cell? ⟨z_, 1, none⟩ = some (.int .i64 r1) := BZ.out.cell 1
    have kZ_2 : y32.cell? ⟨z_, 2, none⟩ = some (.int .i64 r2) := BZ.out.cell 2
    have kZ_3 : y32.cell? ⟨z_, 3, none⟩ = some (.int .i64 r3) := BZ.out.cell 3
    have kZ_4 : y32.cell? ⟨z_, 4, none⟩ = some (.int .i64 r4) := BZ.out.cell 4
    have kZ_5 : y32.cell? ⟨z_, 5, none⟩ = some (.int .i64 r5) := BZ.out.cell 5
    have kZ_6 : y32.cell? ⟨z_, 6, none⟩ = some (.int .i64 r6) := BZ.out.cell 6
    have kQ_0 : y32.cell? ⟨q_, 0, none⟩ = some (.int .i64 r0) := BQ.out.cell 0
    have kQ_1 : y32.cell? ⟨q_, 1, none⟩ = some (.int .i64 r1) := BQ.out.cell 1
    have kQ_2 : y32.cell? ⟨q_, 2, none⟩ = some (.int .i64 r2) := BQ.out.cell 2
    have kQ_3 : y32.cell? ⟨q_, 3, none⟩ = some (.int .i64 r3) := BQ.out.cell 3
    have kQ_4 : y32.cell? ⟨q_, 4, none⟩ = some (.int .i64 r4) := BQ.out.cell 4
    have kQ_5 : y32.cell? ⟨q_, 5, none⟩ = some (.int .i64 r5) := BQ.out.cell 5
    have kQ_6 : y32.cell? ⟨q_, 6, none⟩ = some (.int .i64 r6) := BQ.out.cell 6
    go_wp2
    go_ret
    exact ⟨rfl, R33.out⟩
end Go.Proofs.Ytbjmojajhkhekaa
