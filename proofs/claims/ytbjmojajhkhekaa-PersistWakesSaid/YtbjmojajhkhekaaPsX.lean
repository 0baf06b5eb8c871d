/- The walk of PersistWakes. -/
import Derived.Test.YtbjmojajhkhekaaPsI
import Derived.Test.YtbjmojajhkhekaaPsW
import Derived.Test.YtbjmojajhkhekaaPsE
import Derived.Test.YtbjmojajhkhekaaWithin
import Derived.Deep.RegionHeld3
import Derived.Test.YtbjmojajhkhekaaTake
import Derived.Test.YtbjmojajhkhekaaStores
namespace Go.Proofs.Ytbjmojajhkhekaa
open Go.RowKit

set_option maxRecDepth 100000 in
set_option maxHeartbeats 4000000 in
theorem persistWakes_walk (r0 r1 r2 r3 r4 r5 r6 ol oh a : Int) (A0 : Option Addr) (n0 c0 : Nat) (l : List Int) (w : World) (hv : Rd w 1 A0 n0 c0 (l.map (Value.int .i64))) :
    Calls Try.prog 11 #[.agg #[.int .i64 r0, .int .i64 r1, .int .i64 r2, .int .i64 r3, .int .i64 r4, .int .i64 r5, .int .i64 r6], .agg #[.int .i64 ol, .int .i64 oh], .int .i64 a, .slice A0 n0 c0] w fun e w' => e = .returned (.bool true) ∧ Below w.heap.size w w' := by
  have V0 := Lib.hid hv
  have z1 := hv.2.1
  have z2 : c0 ≤ 9223372036854775807 := by have := hv.2.2.1; unfold maxLen at this; omega
  clear hv
  go_enter Try.func11, Try.ntmps11
  go_upto_region 1 with fail
  obtain ⟨x1, a_, u_, ex1, ea_, eu_⟩ : ∃ x1 a_ u_, x1 = (w.alloc (.cells #[.int .i64 r0, .int .i64 r1, .int .i64 r2, .int .i64 r3, .int .i64 r4, .int .i64 r5, .int .i64 r6] 41)).alloc (.cells #[.int .i64 ol, .int .i64 oh] 37) ∧ a_ = w.heap.size ∧ u_ = w.heap.size + 1 := ⟨_, _, _, rfl, rfl, rfl⟩
  rw [← ex1, ← eu_, ← ea_]
  have hbx : Below w.heap.size w x1 := by rw [ex1]; exact below_alloc2 _ _ _ 
  have o_A_U : a_ < u_ := by omega
  have g_A : w.heap.size ≤ a_ := by rw [ea_]; exact Nat.le_refl _
  have BA := Lib.hid (show Blk x1 a_ 41 #[.int .i64 r0, .int .i64 r1, .int .i64 r2, .int .i64 r3, .int .i64 r4, .int .i64 r5, .int .i64 r6] by rw [ex1, ea_]; exact blk_new2_0 _ _ _ _ _ )
  have BU := Lib.hid (show Blk x1 u_ 37 #[.int .i64 ol, .int .i64 oh] by rw [ex1, eu_]; exact blk_new2_1 _ _ _ _ _ )
  have R2 := Lib.hid hbx
  have hz_x1 := R2.out.size
  clear hbx ex1 ea_ eu_
  have V1 := Lib.hid (Rd.stays V0.out R2.out)
  have ult := BU.out.lt
  go_wp2_with fail
  refine (tape_new A0 n0 c0 l _ V1.out (by omega)).mono ?_
  rintro e y3 ⟨tb, rfl, ht, hb⟩
  have hbx : Below x1.heap.size x1 y3 := below_via (by go_grown) hb (by first | (simp; done) | (simp; omega))
  have BA := Lib.hid (BA.out.stays hbx)
  have BU := Lib.hid (BU.out.stays hbx)
  have T := Lib.hid ht
  have R4 := Lib.hid (R2.out.trans (hbx.mono hz_x1))
  have hz_y3 := R4.out.size
  clear hb hbx ht R2 hz_x1
  have tge : x1.heap.size ≤ tb := T.out.ge
  have tlt := T.out.lt
  have O : Hid (y3.grownBy y3 (some tb)) := World.grownBy.refl _ _
  go_wp2_with fail
  refine (made_any _ _ _ _ _ T.out).mono ?_
  rintro e y5 ⟨cn, at_, lo, hi, pp, le, re, kk6, rfl, hm, ht, ho⟩
  have BA := Lib.hid (BA.out.grown ho (by simp; omega))
  have BU := Lib.hid (BU.out.grown ho (by simp; omega))
  have O := Lib.hid (O.out.trans ho)
  have T := Lib.hid ht
  clear ht ho
  clear hm
  have R7 := Lib.hid (R4.out.trans ((Below.refl _ y3).grown O.out hz_y3 (fun k hk => by simp at hk; subst hk; omega)))
  have hz_y5 := R7.out.size
  clear O R4 hz_y3
  go_upto_region 3 with fail
  obtain ⟨x8, m_, ex8, em_⟩ : ∃ x8 m_, x8 = y5.alloc (.cells #[.int .i64 cn, .int .i64 at_, .int .i64 lo, .int .i64 hi, .int .i64 pp, .int .i64 le, .int .i64 re] 41) ∧ m_ = y5.heap.size := ⟨_, _, rfl, rfl⟩
  rw [← ex8, ← em_]
  have hbx : Below y5.heap.size y5 x8 := by rw [ex8]; exact below_alloc1 _ _ 
  have o_A_M : a_ < m_ := by rw [em_]; exact BA.out.lt
  have o_U_M : u_ < m_ := by rw [em_]; exact BU.out.lt
  have g_M : w.heap.size ≤ m_ := by rw [em_]; exact hz_y5
  have t_m_ : tb < m_ := by rw [em_]; exact T.out.lt
  have BA := Lib.hid (BA.out.stays hbx)
  have BU := Lib.hid (BU.out.stays hbx)
  have T := Lib.hid (T.out.stays hbx)
  have BM := Lib.hid (show Blk x8 m_ 41 #[.int .i64 cn, .int .i64 at_, .int .i64 lo, .int .i64 hi, .int .i64 pp, .int .i64 le, .int .i64 re] by rw [ex8, em_]; exact blk_new1_0 _ _ _ )
  have R9 := Lib.hid (R7.out.trans (hbx.mono hz_y5))
  have hz_x8 := R9.out.size
  clear hbx ex8 em_ R7 hz_y5
  have kA_0 : x8.cell? ⟨a_, 0, none⟩ = some (.int .i64 r0) := BA.out.cell 0
  have kA_1 : x8.cell? ⟨a_, 1, none⟩ = some (.int .i64 r1) := BA.out.cell 1
  have kA_2 : x8.cell? ⟨a_, 2, none⟩ = some (.int .i64 r2) := BA.out.cell 2
  have kA_3 : x8.cell? ⟨a_, 3, none⟩ = some (.int .i64 r3) := BA.out.cell 3
  have kA_4 : x8.cell? ⟨a_, 4, none⟩ = some (.int .i64 r4) := BA.out.cell 4
  have kA_5 : x8.cell? ⟨a_, 5, none⟩ = some (.int .i64 r5) := BA.out.cell 5
  have kA_6 : x8.cell? ⟨a_, 6, none⟩ = some (.int .i64 r6) := BA.out.cell 6
  have kM_0 : x8.cell? ⟨m_, 0, none⟩ = some (.int .i64 cn) := BM.out.cell 0
  have kM_1 : x8.cell? ⟨m_, 1, none⟩ = some (.int .i64 at_) := BM.out.cell 1
  have kM_2 : x8.cell? ⟨m_, 2, none⟩ = some (.int .i64 lo) := BM.out.cell 2
  have kM_3 : x8.cell? ⟨m_, 3, none⟩ = some (.int .i64 hi) := BM.out.cell 3
  have kM_4 : x8.cell? ⟨m_, 4, none⟩ = some (.int .i64 pp) := BM.out.cell 4
  have kM_5 : x8.cell? ⟨m_, 5, none⟩ = some (.int .i64 le) := BM.out.cell 5
  have kM_6 : x8.cell? ⟨m_, 6, none⟩ = some (.int .i64 re) := BM.out.cell 6
  go_wp2_with fail
  clear kA_0 kA_1 kA_2 kA_3 kA_4 kA_5 kA_6 kM_0 kM_1 kM_2 kM_3 kM_4 kM_5 kM_6
  obtain ⟨x10, g_, ex10, eg_⟩ : ∃ x10 g_, x10 = x8.alloc (.cells #[.int .i64 r0, .int .i64 r1, .int .i64 r2, .int .i64 r3, .int .i64 r4, .int .i64 r5, .int .i64 r6, .int .i64 cn, .int .i64 at_, .int .i64 lo, .int .i64 hi, .int .i64 pp, .int .i64 le, .int .i64 re] 41) ∧ g_ = x8.heap.size := ⟨_, _, rfl, rfl⟩
  rw [← ex10, ← eg_]
  have hbx : Below x8.heap.size x8 x10 := by rw [ex10]; exact below_alloc1 _ _ 
  have o_A_G : a_ < g_ := by rw [eg_]; exact BA.out.lt
  have o_U_G : u_ < g_ := by rw [eg_]; exact BU.out.lt
  have o_M_G : m_ < g_ := by rw [eg_]; exact BM.out.lt
  have g_G : w.heap.size ≤ g_ := by rw [eg_]; exact hz_x8
  have t_g_ : tb < g_ := by rw [eg_]; exact T.out.lt
  have BA := Lib.hid (BA.out.stays hbx)
  have BU := Lib.hid (BU.out.stays hbx)
  have BM := Lib.hid (BM.out.stays hbx)
  have T := Lib.hid (T.out.stays hbx)
  have BG := Lib.hid (show Blk x10 g_ 41 #[.int .i64 r0, .int .i64 r1, .int .i64 r2, .int .i64 r3, .int .i64 r4, .int .i64 r5, .int .i64 r6, .int .i64 cn, .int .i64 at_, .int .i64 lo, .int .i64 hi, .int .i64 pp, .int .i64 le, .int .i64 re] by rw [ex10, eg_]; exact blk_new1_0 _ _ _ )
  have R11 := Lib.hid (R9.out.trans (hbx.mono hz_x8))
  have hz_x10 := R11.out.size
  clear hbx ex10 eg_ R9 hz_x8
  go_loopw [31] (fun i wr => ∃ (k kk : Nat), k ≤ 2 ∧ i = .int .i64 k ∧ Tape x1.heap.size wr tb l kk ∧ Blk wr u_ 37 #[.int .i64 ol, .int .i64 oh] ∧ Blk wr g_ 41 #[.int .i64 r0, .int .i64 r1, .int .i64 r2, .int .i64 r3, .int .i64 r4, .int .i64 r5, .int .i64 r6, .int .i64 cn, .int .i64 at_, .int .i64 lo, .int .i64 hi, .int .i64 pp, .int .i64 le, .int .i64 re] ∧ Below w.heap.size w wr) (fun i _ => 2 - (intOf i).toNat)
  case atStart => exact ⟨0, _, by omega, rfl, T.out, BU.out, BG.out, R11.out⟩
  case round =>
    clear T BA BU BM BG R11 hz_x10
    obtain ⟨k, kk, hk, rfl, ht, hU, hG, hbr⟩ := hrel
    have T := Lib.hid ht
    have BU := Lib.hid hU
    have BG := Lib.hid hG
    have RW := Lib.hid hbr
    have hz_wr := RW.out.size
    clear ht hU hbr
    by_cases hk2 : k < 2
    · obtain ⟨e0, e1, e2, e3, e4, e5, e6, g0, g1, g2, g3, g4, g5, g6⟩ : ∃ e0 e1 e2 e3 e4 e5 e6 : Int, wr.cell? ⟨g_, k * 7, none⟩ = some (.int .i64 e0) ∧ wr.cell? ⟨g_, k * 7 + 1, none⟩ = some (.int .i64 e1) ∧ wr.cell? ⟨g_, k * 7 + 2, none⟩ = some (.int .i64 e2) ∧ wr.cell? ⟨g_, k * 7 + 3, none⟩ = some (.int .i64 e3) ∧ wr.cell? ⟨g_, k * 7 + 4, none⟩ = some (.int .i64 e4) ∧ wr.cell? ⟨g_, k * 7 + 5, none⟩ = some (.int .i64 e5) ∧ wr.cell? ⟨g_, k * 7 + 6, none⟩ = some (.int .i64 e6) := by
        match k, hk2 with
        | 0, _ => exact ⟨r0, r1, r2, r3, r4, r5, r6, hG.cell 0, hG.cell 1, hG.cell 2, hG.cell 3, hG.cell 4, hG.cell 5, hG.cell 6⟩
        | 1, _ => exact ⟨cn, at_, lo, hi, pp, le, re, hG.cell 7, hG.cell 8, hG.cell 9, hG.cell 10, hG.cell 11, hG.cell 12, hG.cell 13⟩
      clear hG
      have hki : (k : Int) < 2 := by omega
      go_upto_region 6 with fail
      clear g0 g1 g2 g3 g4 g5 g6
      obtain ⟨x12, x_, ex12, ex_⟩ : ∃ x12 x_, x12 = wr.alloc (.cells #[.int .i64 e0, .int .i64 e1, .int .i64 e2, .int .i64 e3, .int .i64 e4, .int .i64 e5, .int .i64 e6] 41) ∧ x_ = wr.heap.size := ⟨_, _, rfl, rfl⟩
      rw [← ex12, ← ex_]
      have hbx : Below wr.heap.size wr x12 := by rw [ex12]; exact below_alloc1 _ _ 
      have o_U_X : u_ < x_ := by rw [ex_]; exact BU.out.lt
      have o_G_X : g_ < x_ := by rw [ex_]; exact BG.out.lt
      have g_X : w.heap.size ≤ x_ := by rw [ex_]; exact hz_wr
      have t_x_ : tb < x_ := by rw [ex_]; exact T.out.lt
      have BU := Lib.hid (BU.out.stays hbx)
      have BG := Lib.hid (BG.out.stays hbx)
      have T := Lib.hid (T.out.stays hbx)
      have BX := Lib.hid (show Blk x12 x_ 41 #[.int .i64 e0, .int .i64 e1, .int .i64 e2, .int .i64 e3, .int .i64 e4, .int .i64 e5, .int .i64 e6] by rw [ex12, ex_]; exact blk_new1_0 _ _ _ )
      have R13 := Lib.hid (RW.out.trans (hbx.mono hz_wr))
      have hz_x12 := R13.out.size
      clear hbx ex12 ex_ RW hz_wr
      have kU_0 : x12.cell? ⟨u_, 0, none⟩ = some (.int .i64 ol) := BU.out.cell 0
      have kU_1 : x12.cell? ⟨u_, 1, none⟩ = some (.int .i64 oh) := BU.out.cell 1
      have tok1 : True := trivial
      have tuo := Lib.hid (show tb ≠ u_ by omega)
      have TD := Lib.hid (show Tape x1.heap.size (World.drew x12) tb l kk from Tape.keep T.out (fun q hq => rfl))
      have BD := Lib.hid (show Blk (World.drew x12) u_ 37 #[.int .i64 ol, .int .i64 oh] from BU.out)
      go_region_held3 (fun w' => w'.cell? ⟨u_, 0, none⟩ = some (.int .i64 ol) ∧ w'.cell? ⟨u_, 1, none⟩ = some (.int .i64 oh)) (go_keep)
        (first
          | (go_at_call 42; have _t := tok1; clear tok1; (with_reducible refine (range_any _ _ _ _ (-2) 50 53 (by decide) (by decide) (by decide) (by decide) (by decide) _ TD.out).mono ?_); rintro e w1 ⟨q0, k1, rfl, lq0, uq0, ht1, ho1⟩; have V1 := BD.out.grown ho1 (by have := tuo.out; simp; omega); have c10 := V1.cell 0; have c11 := V1.cell 1; clear V1)
          | (go_at_call 42; (with_reducible refine (range_any _ _ _ _ (-2) 90 93 (by decide) (by decide) (by decide) (by decide) (by decide) _ ht1).mono ?_); rintro e w2 ⟨q1, k2, rfl, lq1, uq1, ht2, ho2⟩; have V2 := BD.out.grown (ho1.trans ho2) (by have := tuo.out; simp; omega); have c20 := V2.cell 0; have c21 := V2.cell 1; clear V2))
      all_goals
        have BU := Lib.hid ((show Blk (World.drew x12) u_ 37 #[.int .i64 ol, .int .i64 oh] from BU.out).grown (ho1.trans ho2) (by simp; omega))
        have BG := Lib.hid ((show Blk (World.drew x12) g_ 41 #[.int .i64 r0, .int .i64 r1, .int .i64 r2, .int .i64 r3, .int .i64 r4, .int .i64 r5, .int .i64 r6, .int .i64 cn, .int .i64 at_, .int .i64 lo, .int .i64 hi, .int .i64 pp, .int .i64 le, .int .i64 re] from BG.out).grown (ho1.trans ho2) (by simp; omega))
        have BX := Lib.hid ((show Blk (World.drew x12) x_ 41 #[.int .i64 e0, .int .i64 e1, .int .i64 e2, .int .i64 e3, .int .i64 e4, .int .i64 e5, .int .i64 e6] from BX.out).grown (ho1.trans ho2) (by simp; omega))
        have T := Lib.hid ht2
        have RV := Lib.hid (R13.out.drew.grown (ho1.trans ho2) hz_x12 (fun k hk => by simp at hk; subst hk; omega))
        have hz_w2 := RV.out.size
        clear R13 hz_x12 TD BD tuo ht1 ht2 ho1 ho2 kU_0 kU_1 c10 c11 c20 c21
        obtain ⟨x14, z_, ex14, ez_⟩ : ∃ x14 z_, x14 = w2.alloc (.cells #[.int .i64 ol, .int .i64 oh, .int .i64 q0, .int .i64 q1] 37) ∧ z_ = w2.heap.size := ⟨_, _, rfl, rfl⟩
        rw [← ex14, ← ez_]
        have hbx : Below w2.heap.size w2 x14 := by rw [ex14]; exact below_alloc1 _ _ 
        have o_U_Z : u_ < z_ := by rw [ez_]; exact BU.out.lt
        have o_G_Z : g_ < z_ := by rw [ez_]; exact BG.out.lt
        have o_X_Z : x_ < z_ := by rw [ez_]; exact BX.out.lt
        have g_Z : w.heap.size ≤ z_ := by rw [ez_]; exact hz_w2
        have t_z_ : tb < z_ := by rw [ez_]; exact T.out.lt
        have BU := Lib.hid (BU.out.stays hbx)
        have BG := Lib.hid (BG.out.stays hbx)
        have BX := Lib.hid (BX.out.stays hbx)
        have T := Lib.hid (T.out.stays hbx)
        have BZ := Lib.hid (show Blk x14 z_ 37 #[.int .i64 ol, .int .i64 oh, .int .i64 q0, .int .i64 q1] by rw [ex14, ez_]; exact blk_new1_0 _ _ _ )
        have R15 := Lib.hid (RV.out.trans (hbx.mono hz_w2))
        have hz_x14 := R15.out.size
        clear hbx ex14 ez_ RV hz_w2
        go_wp2_with fail
        go_loopw [43] (fun i ws => ∃ (j : Nat), j ≤ 2 ∧ i = .int .i64 j ∧ Tape x1.heap.size ws tb l k2 ∧ Blk ws u_ 37 #[.int .i64 ol, .int .i64 oh] ∧ Blk ws g_ 41 #[.int .i64 r0, .int .i64 r1, .int .i64 r2, .int .i64 r3, .int .i64 r4, .int .i64 r5, .int .i64 r6, .int .i64 cn, .int .i64 at_, .int .i64 lo, .int .i64 hi, .int .i64 pp, .int .i64 le, .int .i64 re] ∧ Blk ws x_ 41 #[.int .i64 e0, .int .i64 e1, .int .i64 e2, .int .i64 e3, .int .i64 e4, .int .i64 e5, .int .i64 e6] ∧ Blk ws z_ 37 #[.int .i64 ol, .int .i64 oh, .int .i64 q0, .int .i64 q1] ∧ Below w.heap.size w ws) (fun i _ => 2 - (intOf i).toNat)
        case atStart => exact ⟨0, by omega, rfl, T.out, BU.out, BG.out, BX.out, BZ.out, R15.out⟩
        case round =>
          clear T BU BG BX BZ R15 hz_x14
          obtain ⟨j, hj, rfl, ht, hU, hG, hX, hZ, hbs⟩ := hrel
          have T := Lib.hid ht
          have BU := Lib.hid hU
          have BG := Lib.hid hG
          have BX := Lib.hid hX
          have RS := Lib.hid hbs
          have hz_wr := RS.out.size
          clear ht hU hG hX hbs
          by_cases hj2 : j < 2
          · obtain ⟨u0, u1, g0, g1⟩ : ∃ u0 u1 : Int, wr.cell? ⟨z_, j * 2, none⟩ = some (.int .i64 u0) ∧ wr.cell? ⟨z_, j * 2 + 1, none⟩ = some (.int .i64 u1) := by
              match j, hj2 with
              | 0, _ => exact ⟨ol, oh, hZ.cell 0, hZ.cell 1⟩
              | 1, _ => exact ⟨q0, q1, hZ.cell 2, hZ.cell 3⟩
            have hji : (j : Int) < 2 := by omega
            have BZ := Lib.hid hZ
            clear hZ
            go_upto_region 9 with fail
            clear g0 g1
            obtain ⟨x16, y_, ex16, ey_⟩ : ∃ x16 y_, x16 = wr.alloc (.cells #[.int .i64 u0, .int .i64 u1] 37) ∧ y_ = wr.heap.size := ⟨_, _, rfl, rfl⟩
            rw [← ex16, ← ey_]
            have hbx : Below wr.heap.size wr x16 := by rw [ex16]; exact below_alloc1 _ _ 
            have o_U_Y : u_ < y_ := by rw [ey_]; exact BU.out.lt
            have o_G_Y : g_ < y_ := by rw [ey_]; exact BG.out.lt
            have o_X_Y : x_ < y_ := by rw [ey_]; exact BX.out.lt
            have o_Z_Y : z_ < y_ := by rw [ey_]; exact BZ.out.lt
            have g_Y : w.heap.size ≤ y_ := by rw [ey_]; exact hz_wr
            have t_y_ : tb < y_ := by rw [ey_]; exact T.out.lt
            have BU := Lib.hid (BU.out.stays hbx)
            have BG := Lib.hid (BG.out.stays hbx)
            have BX := Lib.hid (BX.out.stays hbx)
            have BZ := Lib.hid (BZ.out.stays hbx)
            have T := Lib.hid (T.out.stays hbx)
            have BY := Lib.hid (show Blk x16 y_ 37 #[.int .i64 u0, .int .i64 u1] by rw [ex16, ey_]; exact blk_new1_0 _ _ _ )
            have R17 := Lib.hid (RS.out.trans (hbx.mono hz_wr))
            have hz_x16 := R17.out.size
            clear hbx ex16 ey_ RS hz_wr
            have kX_0 : x16.cell? ⟨x_, 0, none⟩ = some (.int .i64 e0) := BX.out.cell 0
            have kX_1 : x16.cell? ⟨x_, 1, none⟩ = some (.int .i64 e1) := BX.out.cell 1
            have kX_2 : x16.cell? ⟨x_, 2, none⟩ = some (.int .i64 e2) := BX.out.cell 2
            have kX_3 : x16.cell? ⟨x_, 3, none⟩ = some (.int .i64 e3) := BX.out.cell 3
            have kX_4 : x16.cell? ⟨x_, 4, none⟩ = some (.int .i64 e4) := BX.out.cell 4
            have kX_5 : x16.cell? ⟨x_, 5, none⟩ = some (.int .i64 e5) := BX.out.cell 5
            have kX_6 : x16.cell? ⟨x_, 6, none⟩ = some (.int .i64 e6) := BX.out.cell 6
            have kY_0 : x16.cell? ⟨y_, 0, none⟩ = some (.int .i64 u0) := BY.out.cell 0
            have kY_1 : x16.cell? ⟨y_, 1, none⟩ = some (.int .i64 u1) := BY.out.cell 1
            go_wp2_with fail
            refine (wake_any e0 e1 e2 e3 e4 e5 e6 u0 u1 a _).mono ?_
            rintro e y18 ⟨rfl, hb⟩
            clear kX_0 kX_1 kX_2 kX_3 kX_4 kX_5 kX_6 kY_0 kY_1
            have hbx : Below x16.heap.size x16 y18 := below_via (by go_grown) hb (by first | (simp; done) | (simp; omega))
            have BU := Lib.hid (BU.out.stays hbx)
            have BG := Lib.hid (BG.out.stays hbx)
            have BX := Lib.hid (BX.out.stays hbx)
            have BZ := Lib.hid (BZ.out.stays hbx)
            have BY := Lib.hid (BY.out.stays hbx)
            have T := Lib.hid (T.out.stays hbx)
            have R19 := Lib.hid (R17.out.trans (hbx.mono hz_x16))
            have hz_y18 := R19.out.size
            clear hb hbx  R17 hz_x16
            go_upto_region 10 with fail
            obtain ⟨x20, c_, ex20, ec_⟩ : ∃ x20 c_, x20 = y18.alloc (.cells #[.int .i64 (wkV e1 e2 e3 e4 e5 e6 u0 u1 a a), .int .i64 (wkV e1 e2 e3 e4 e5 e6 u0 u1 a (e2 + u0)), .int .i64 (wkV e1 e2 e3 e4 e5 e6 u0 u1 a (e3 + u1)), .int .i64 (wkV e1 e2 e3 e4 e5 e6 u0 u1 a e4), .int .i64 0, .int .i64 0] 39) ∧ c_ = y18.heap.size := ⟨_, _, rfl, rfl⟩
            rw [← ex20, ← ec_]
            have hbx : Below y18.heap.size y18 x20 := by rw [ex20]; exact below_alloc1 _ _ 
            have o_U_C : u_ < c_ := by rw [ec_]; exact BU.out.lt
            have o_G_C : g_ < c_ := by rw [ec_]; exact BG.out.lt
            have o_X_C : x_ < c_ := by rw [ec_]; exact BX.out.lt
            have o_Z_C : z_ < c_ := by rw [ec_]; exact BZ.out.lt
            have o_Y_C : y_ < c_ := by rw [ec_]; exact BY.out.lt
            have g_C : w.heap.size ≤ c_ := by rw [ec_]; exact hz_y18
            have t_c_ : tb < c_ := by rw [ec_]; exact T.out.lt
            have BU := Lib.hid (BU.out.stays hbx)
            have BG := Lib.hid (BG.out.stays hbx)
            have BX := Lib.hid (BX.out.stays hbx)
            have BZ := Lib.hid (BZ.out.stays hbx)
            have BY := Lib.hid (BY.out.stays hbx)
            have T := Lib.hid (T.out.stays hbx)
            have BC := Lib.hid (show Blk x20 c_ 39 #[.int .i64 (wkV e1 e2 e3 e4 e5 e6 u0 u1 a a), .int .i64 (wkV e1 e2 e3 e4 e5 e6 u0 u1 a (e2 + u0)), .int .i64 (wkV e1 e2 e3 e4 e5 e6 u0 u1 a (e3 + u1)), .int .i64 (wkV e1 e2 e3 e4 e5 e6 u0 u1 a e4), .int .i64 0, .int .i64 0] by rw [ex20, ec_]; exact blk_new1_0 _ _ _ )
            have R21 := Lib.hid (R19.out.trans (hbx.mono hz_y18))
            have hz_x20 := R21.out.size
            clear hbx ex20 ec_ R19 hz_y18
            have kX_0 : x20.cell? ⟨x_, 0, none⟩ = some (.int .i64 e0) := BX.out.cell 0
            have kX_1 : x20.cell? ⟨x_, 1, none⟩ = some (.int .i64 e1) := BX.out.cell 1
            have kX_2 : x20.cell? ⟨x_, 2, none⟩ = some (.int .i64 e2) := BX.out.cell 2
            have kX_3 : x20.cell? ⟨x_, 3, none⟩ = some (.int .i64 e3) := BX.out.cell 3
            have kX_4 : x20.cell? ⟨x_, 4, none⟩ = some (.int .i64 e4) := BX.out.cell 4
            have kX_5 : x20.cell? ⟨x_, 5, none⟩ = some (.int .i64 e5) := BX.out.cell 5
            have kX_6 : x20.cell? ⟨x_, 6, none⟩ = some (.int .i64 e6) := BX.out.cell 6
            have kY_0 : x20.cell? ⟨y_, 0, none⟩ = some (.int .i64 u0) := BY.out.cell 0
            have kY_1 : x20.cell? ⟨y_, 1, none⟩ = some (.int .i64 u1) := BY.out.cell 1
            go_wp2_with fail
            refine (refWake_any e0 e1 e2 e3 e4 e5 e6 u0 u1 a _).mono ?_
            rintro e y22 ⟨rfl, hb⟩
            clear kX_0 kX_1 kX_2 kX_3 kX_4 kX_5 kX_6 kY_0 kY_1
            have hbx : Below x20.heap.size x20 y22 := below_via (by go_grown) hb (by first | (simp; done) | (simp; omega))
            have BU := Lib.hid (BU.out.stays hbx)
            have BG := Lib.hid (BG.out.stays hbx)
            have BX := Lib.hid (BX.out.stays hbx)
            have BZ := Lib.hid (BZ.out.stays hbx)
            have BY := Lib.hid (BY.out.stays hbx)
            have BC := Lib.hid (BC.out.stays hbx)
            have T := Lib.hid (T.out.stays hbx)
            have R23 := Lib.hid (R21.out.trans (hbx.mono hz_x20))
            have hz_y22 := R23.out.size
            clear hb hbx  R21 hz_x20
            go_upto_region 11 with fail
            obtain ⟨x24, d_, ex24, ed_⟩ : ∃ x24 d_, x24 = y22.alloc (.cells #[.int .i64 (wkV e1 e2 e3 e4 e5 e6 u0 u1 a a), .int .i64 (wkV e1 e2 e3 e4 e5 e6 u0 u1 a (e2 + u0)), .int .i64 (wkV e1 e2 e3 e4 e5 e6 u0 u1 a (e3 + u1)), .int .i64 (wkV e1 e2 e3 e4 e5 e6 u0 u1 a e4), .int .i64 0, .int .i64 0] 39) ∧ d_ = y22.heap.size := ⟨_, _, rfl, rfl⟩
            rw [← ex24, ← ed_]
            have hbx : Below y22.heap.size y22 x24 := by rw [ex24]; exact below_alloc1 _ _ 
            have o_U_D : u_ < d_ := by rw [ed_]; exact BU.out.lt
            have o_G_D : g_ < d_ := by rw [ed_]; exact BG.out.lt
            have o_X_D : x_ < d_ := by rw [ed_]; exact BX.out.lt
            have o_Z_D : z_ < d_ := by rw [ed_]; exact BZ.out.lt
            have o_Y_D : y_ < d_ := by rw [ed_]; exact BY.out.lt
            have o_C_D : c_ < d_ := by rw [ed_]; exact BC.out.lt
            have g_D : w.heap.size ≤ d_ := by rw [ed_]; exact hz_y22
            have t_d_ : tb < d_ := by rw [ed_]; exact T.out.lt
            have BU := Lib.hid (BU.out.stays hbx)
            have BG := Lib.hid (BG.out.stays hbx)
            have BX := Lib.hid (BX.out.stays hbx)
            have BZ := Lib.hid (BZ.out.stays hbx)
            have BY := Lib.hid (BY.out.stays hbx)
            have BC := Lib.hid (BC.out.stays hbx)
            have T := Lib.hid (T.out.stays hbx)
            have BD := Lib.hid (show Blk x24 d_ 39 #[.int .i64 (wkV e1 e2 e3 e4 e5 e6 u0 u1 a a), .int .i64 (wkV e1 e2 e3 e4 e5 e6 u0 u1 a (e2 + u0)), .int .i64 (wkV e1 e2 e3 e4 e5 e6 u0 u1 a (e3 + u1)), .int .i64 (wkV e1 e2 e3 e4 e5 e6 u0 u1 a e4), .int .i64 0, .int .i64 0] by rw [ex24, ed_]; exact blk_new1_0 _ _ _ )
            have R25 := Lib.hid (R23.out.trans (hbx.mono hz_y22))
            have hz_x24 := R25.out.size
            clear hbx ex24 ed_ R23 hz_y22
            obtain ⟨am, ham⟩ : ∃ am : Int, a % 100 = am := ⟨_, rfl⟩
            have HAM := Lib.hid ham
            clear ham
            have l_U := BU.out.lt
            have l_G := BG.out.lt
            have l_X := BX.out.lt
            have l_Z := BZ.out.lt
            have l_Y := BY.out.lt
            have l_C := BC.out.lt
            have l_D := BD.out.lt
            refine take_start (S := fun w' => Below x24.heap.size x24 w') (by kernel_rfl) ?hPQ_1 (Below.refl _ _).drew (fun hPQ hHeld => ?rest_1)
            case hPQ_1 => (repeat (with_reducible first | refine PQ.then ?_ | refine PQ.block ?_)); exact fun _ _ d _ _ h => by cases d <;> exact h
            refine take_val (i := 0) (d := (some 62)) (v := ?_) rfl rfl (by kernel_rfl) (by kernel_rfl) (by kernel_rfl) hPQ (by rfl) (fun wq hSw => ?_) hHeld ?_
            rotate_left 1
            · replace hSw : Below x24.heap.size x24 wq := hSw; have cX := (BX.out.stays hSw).cell; have cY := (BY.out.stays hSw).cell; go_simp; try with_reducible rfl
            try simp only [Act.put, List.setIfInBounds_toArray, List.set_cons_zero, List.set_cons_succ]
            refine take_val (i := 1) (d := (some 63)) (v := ?_) rfl rfl (by kernel_rfl) (by kernel_rfl) (by kernel_rfl) hPQ (by rfl) (fun wq hSw => ?_) hHeld ?_
            rotate_left 1
            · replace hSw : Below x24.heap.size x24 wq := hSw; have cX := (BX.out.stays hSw).cell; have cY := (BY.out.stays hSw).cell; go_simp; try with_reducible rfl
            try simp only [Act.put, List.setIfInBounds_toArray, List.set_cons_zero, List.set_cons_succ]
            refine take_val (i := 2) (d := (some 64)) (v := ?_) rfl rfl (by kernel_rfl) (by kernel_rfl) (by kernel_rfl) hPQ (by rfl) (fun wq hSw => ?_) hHeld ?_
            rotate_left 1
            · replace hSw : Below x24.heap.size x24 wq := hSw; have cX := (BX.out.stays hSw).cell; have cY := (BY.out.stays hSw).cell; go_simp; try with_reducible rfl
            try simp only [Act.put, List.setIfInBounds_toArray, List.set_cons_zero, List.set_cons_succ]
            refine take_call (i := 3) (d := (some 65)) rfl rfl (by kernel_rfl) (by kernel_rfl) (by kernel_rfl) hPQ (by rfl) (fun wq hSw => (within_any a 100 (by decide) (by decide) wq).mono (fun e q hq => ⟨hq.1, by first | exact hq.2 | exact hq.2.symm⟩)) (fun wq hSw => ?_) hHeld ?_
            · go_simp
            try simp only [Act.put, List.setIfInBounds_toArray, List.set_cons_zero, List.set_cons_succ]
            simp only [HAM.out]
            refine take_fork (α := Unit) (i := 8) (j := 4) (di := (some 19)) (dj := (some 66)) (val := fun _ => .tuple #[.agg #[.int .i64 (wkV e1 e2 e3 e4 e5 e6 u0 u1 am am), .int .i64 (wkV e1 e2 e3 e4 e5 e6 u0 u1 am (e2 + u0)), .int .i64 (wkV e1 e2 e3 e4 e5 e6 u0 u1 am (e3 + u1)), .int .i64 (wkV e1 e2 e3 e4 e5 e6 u0 u1 am e4), .int .i64 0, .int .i64 0], .int .i64 (wkE e1 e2 e3 e4 e5 e6 u0 u1 am)]) (R := fun _ _ => True) (z := #[.int .i64 0, .int .i64 0, .int .i64 0, .int .i64 0, .int .i64 0, .int .i64 0]) (T := 39) (C := ?C_5) rfl rfl rfl rfl (by kernel_rfl) (by kernel_rfl) (by kernel_rfl) rfl rfl ?hal_5 (fun wq hSw => (wake_any e0 e1 e2 e3 e4 e5 e6 u0 u1 am wq).mono (fun e q hq => ⟨(), hq.1, trivial, hq.2⟩)) ?hr_5 ?hr2_5 hHeld (fun w1 w2 h1 h2 => below_via h1 h2 h1.size) ?hi_5 ?hj_5 (fun _ _ _ _ _ => trivial) ?h_5
            case hal_5 => go_simp; try with_reducible rfl
            case hr_5 => go_simp
            case hr2_5 => intro v w; go_simp
            case hi_5 =>
              intro _x f_ wf hHeld hC
              try simp only [Act.put, List.setIfInBounds_toArray, List.set_cons_zero, List.set_cons_succ]
              refine take_val (i := 5) (d := (some 61)) (v := ?_) rfl rfl (by kernel_rfl) (by kernel_rfl) (by kernel_rfl) hPQ (by rfl) (fun wq hSw => ?_) hHeld ?_
              rotate_left 1
              · replace hSw : Below x24.heap.size x24 wq := hSw; have cX := (BX.out.stays hSw).cell; have cY := (BY.out.stays hSw).cell; go_simp; try with_reducible rfl
              try simp only [Act.put, List.setIfInBounds_toArray, List.set_cons_zero, List.set_cons_succ]
              refine take_val (i := 6) (d := (some 67)) (v := ?_) rfl rfl (by kernel_rfl) (by kernel_rfl) (by kernel_rfl) hPQ (by rfl) (fun wq hSw => ?_) hHeld ?_
              rotate_left 1
              · replace hSw : Below x24.heap.size x24 wq := hSw; have cX := (BX.out.stays hSw).cell; have cY := (BY.out.stays hSw).cell; go_simp; try with_reducible rfl
              try simp only [Act.put, List.setIfInBounds_toArray, List.set_cons_zero, List.set_cons_succ]
              refine take_val (i := 7) (d := (some 68)) (v := ?_) rfl rfl (by kernel_rfl) (by kernel_rfl) (by kernel_rfl) hPQ (by rfl) (fun wq hSw => ?_) hHeld ?_
              rotate_left 1
              · replace hSw : Below x24.heap.size x24 wq := hSw; have cX := (BX.out.stays hSw).cell; have cY := (BY.out.stays hSw).cell; go_simp; try with_reducible rfl
              try simp only [Act.put, List.setIfInBounds_toArray, List.set_cons_zero, List.set_cons_succ]
              refine relist (L' := #[true, true, true, true, true, true, true, true, true, false, false]) (by kernel_rfl) ?_
              exact hC
            case hj_5 =>
              intro _x wf hHeld hC
              try simp only [Act.put, List.setIfInBounds_toArray, List.set_cons_zero, List.set_cons_succ]
              refine take_val (i := 5) (d := (some 61)) (v := ?_) rfl rfl (by kernel_rfl) (by kernel_rfl) (by kernel_rfl) hPQ (by rfl) (fun wq hSw => ?_) hHeld ?_
              rotate_left 1
              · replace hSw : Below x24.heap.size x24 wq := hSw; have cX := (BX.out.stays hSw).cell; have cY := (BY.out.stays hSw).cell; go_simp; try with_reducible rfl
              try simp only [Act.put, List.setIfInBounds_toArray, List.set_cons_zero, List.set_cons_succ]
              refine take_val (i := 6) (d := (some 67)) (v := ?_) rfl rfl (by kernel_rfl) (by kernel_rfl) (by kernel_rfl) hPQ (by rfl) (fun wq hSw => ?_) hHeld ?_
              rotate_left 1
              · replace hSw : Below x24.heap.size x24 wq := hSw; have cX := (BX.out.stays hSw).cell; have cY := (BY.out.stays hSw).cell; go_simp; try with_reducible rfl
              try simp only [Act.put, List.setIfInBounds_toArray, List.set_cons_zero, List.set_cons_succ]
              refine take_val (i := 7) (d := (some 68)) (v := ?_) rfl rfl (by kernel_rfl) (by kernel_rfl) (by kernel_rfl) hPQ (by rfl) (fun wq hSw => ?_) hHeld ?_
              rotate_left 1
              · replace hSw : Below x24.heap.size x24 wq := hSw; have cX := (BX.out.stays hSw).cell; have cY := (BY.out.stays hSw).cell; go_simp; try with_reducible rfl
              try simp only [Act.put, List.setIfInBounds_toArray, List.set_cons_zero, List.set_cons_succ]
              refine take_alloc (i := 8) (di := (some 19)) (z := #[.int .i64 0, .int .i64 0, .int .i64 0, .int .i64 0, .int .i64 0, .int .i64 0]) (T := 39) rfl rfl (by kernel_rfl) rfl (by go_simp; try with_reducible rfl) (fun w3 hb => below_via hHeld hb hHeld.size) ?_
              intro f_ w3 hg hB hb hHeld
              try simp only [Act.put, List.setIfInBounds_toArray, List.set_cons_zero, List.set_cons_succ]
              refine relist (L' := #[true, true, true, true, true, true, true, true, true, false, false]) (by kernel_rfl) ?_
              exact hC f_ w3 hg hB hb hHeld
            intro _x f_ wf hv hgf hBF hbf hHeld
            have hgf : x24.heap.size ≤ f_ := hgf
            clear hbf
            have BF := Lib.hid hBF
            clear hBF hv
            refine take_store (j := 9) (g := f_) (vs := [.int .i64 (wkV e1 e2 e3 e4 e5 e6 u0 u1 am am), .int .i64 (wkV e1 e2 e3 e4 e5 e6 u0 u1 am (e2 + u0)), .int .i64 (wkV e1 e2 e3 e4 e5 e6 u0 u1 am (e3 + u1)), .int .i64 (wkV e1 e2 e3 e4 e5 e6 u0 u1 am e4), .int .i64 0, .int .i64 0]) rfl rfl (by kernel_rfl) rfl BF.out rfl (fun cF zF => ?_) (Below.stores hgf _ _ _ hHeld) ?_
            · go_simp; rfl
            clear hHeld BF
            intro x26 hHeld hBF
            have BF := Lib.hid hBF
            clear hBF
            try simp only [Act.put, List.setIfInBounds_toArray, List.set_cons_zero, List.set_cons_succ]
            refine take_val (i := 10) (d := (some 20)) (v := ?_) rfl rfl (by kernel_rfl) (by kernel_rfl) (by kernel_rfl) hPQ (by rfl) (fun wq hSw => ?_) hHeld ?_
            rotate_left 1
            · replace hSw : Below x24.heap.size x24 wq := hSw; have cX := (BX.out.stays hSw).cell; have cY := (BY.out.stays hSw).cell; go_simp; try with_reducible rfl
            try simp only [Act.put, List.setIfInBounds_toArray, List.set_cons_zero, List.set_cons_succ]
            refine wpAnyH_done (by kernel_rfl) ?_ _
            have BU := Lib.hid (BU.out.stays hHeld)
            have BG := Lib.hid (BG.out.stays hHeld)
            have BX := Lib.hid (BX.out.stays hHeld)
            have BZ := Lib.hid (BZ.out.stays hHeld)
            have BY := Lib.hid (BY.out.stays hHeld)
            have BC := Lib.hid (BC.out.stays hHeld)
            have BD := Lib.hid (BD.out.stays hHeld)
            have T := Lib.hid (T.out.stays hHeld)
            have R27 := Lib.hid (R25.out.trans (hHeld.mono hz_x24))
            have hz_x26 := R27.out.size
            have o_U_F : u_ < f_ := Nat.lt_of_lt_of_le l_U hgf
            have o_G_F : g_ < f_ := Nat.lt_of_lt_of_le l_G hgf
            have o_X_F : x_ < f_ := Nat.lt_of_lt_of_le l_X hgf
            have o_Z_F : z_ < f_ := Nat.lt_of_lt_of_le l_Z hgf
            have o_Y_F : y_ < f_ := Nat.lt_of_lt_of_le l_Y hgf
            have o_C_F : c_ < f_ := Nat.lt_of_lt_of_le l_C hgf
            have o_D_F : d_ < f_ := Nat.lt_of_lt_of_le l_D hgf
            have g_F : w.heap.size ≤ f_ := Nat.le_trans hz_x24 hgf
            clear hHeld hgf R25 hz_x24 l_U l_G l_X l_Z l_Y l_C l_D
            go_upto_region 12 with fail
            have l_U := BU.out.lt
            have l_G := BG.out.lt
            have l_X := BX.out.lt
            have l_Z := BZ.out.lt
            have l_Y := BY.out.lt
            have l_C := BC.out.lt
            have l_D := BD.out.lt
            have l_F := BF.out.lt
            refine take_start (S := fun w' => Below x26.heap.size x26 w') (by kernel_rfl) ?hPQ_14 (Below.refl _ _).drew (fun hPQ hHeld => ?rest_14)
            case hPQ_14 => (repeat (with_reducible first | refine PQ.then ?_ | refine PQ.block ?_)); exact fun _ _ d _ _ h => by cases d <;> exact h
            refine take_val (i := 0) (d := (some 70)) (v := ?_) rfl rfl (by kernel_rfl) (by kernel_rfl) (by kernel_rfl) hPQ (by rfl) (fun wq hSw => ?_) hHeld ?_
            rotate_left 1
            · replace hSw : Below x26.heap.size x26 wq := hSw; have cX := (BX.out.stays hSw).cell; have cY := (BY.out.stays hSw).cell; go_simp; try with_reducible rfl
            try simp only [Act.put, List.setIfInBounds_toArray, List.set_cons_zero, List.set_cons_succ]
            refine take_val (i := 1) (d := (some 71)) (v := ?_) rfl rfl (by kernel_rfl) (by kernel_rfl) (by kernel_rfl) hPQ (by rfl) (fun wq hSw => ?_) hHeld ?_
            rotate_left 1
            · replace hSw : Below x26.heap.size x26 wq := hSw; have cX := (BX.out.stays hSw).cell; have cY := (BY.out.stays hSw).cell; go_simp; try with_reducible rfl
            try simp only [Act.put, List.setIfInBounds_toArray, List.set_cons_zero, List.set_cons_succ]
            refine take_val (i := 2) (d := (some 72)) (v := ?_) rfl rfl (by kernel_rfl) (by kernel_rfl) (by kernel_rfl) hPQ (by rfl) (fun wq hSw => ?_) hHeld ?_
            rotate_left 1
            · replace hSw : Below x26.heap.size x26 wq := hSw; have cX := (BX.out.stays hSw).cell; have cY := (BY.out.stays hSw).cell; go_simp; try with_reducible rfl
            try simp only [Act.put, List.setIfInBounds_toArray, List.set_cons_zero, List.set_cons_succ]
            refine take_call (i := 3) (d := (some 73)) rfl rfl (by kernel_rfl) (by kernel_rfl) (by kernel_rfl) hPQ (by rfl) (fun wq hSw => (within_any a 100 (by decide) (by decide) wq).mono (fun e q hq => ⟨hq.1, by first | exact hq.2 | exact hq.2.symm⟩)) (fun wq hSw => ?_) hHeld ?_
            · go_simp
            try simp only [Act.put, List.setIfInBounds_toArray, List.set_cons_zero, List.set_cons_succ]
            simp only [HAM.out]
            refine take_fork (α := Unit) (i := 8) (j := 4) (di := (some 21)) (dj := (some 74)) (val := fun _ => .tuple #[.agg #[.int .i64 (wkV e1 e2 e3 e4 e5 e6 u0 u1 am am), .int .i64 (wkV e1 e2 e3 e4 e5 e6 u0 u1 am (e2 + u0)), .int .i64 (wkV e1 e2 e3 e4 e5 e6 u0 u1 am (e3 + u1)), .int .i64 (wkV e1 e2 e3 e4 e5 e6 u0 u1 am e4), .int .i64 0, .int .i64 0], .int .i64 (wkE e1 e2 e3 e4 e5 e6 u0 u1 am)]) (R := fun _ _ => True) (z := #[.int .i64 0, .int .i64 0, .int .i64 0, .int .i64 0, .int .i64 0, .int .i64 0]) (T := 39) (C := ?C_18) rfl rfl rfl rfl (by kernel_rfl) (by kernel_rfl) (by kernel_rfl) rfl rfl ?hal_18 (fun wq hSw => (refWake_any e0 e1 e2 e3 e4 e5 e6 u0 u1 am wq).mono (fun e q hq => ⟨(), hq.1, trivial, hq.2⟩)) ?hr_18 ?hr2_18 hHeld (fun w1 w2 h1 h2 => below_via h1 h2 h1.size) ?hi_18 ?hj_18 (fun _ _ _ _ _ => trivial) ?h_18
            case hal_18 => go_simp; try with_reducible rfl
            case hr_18 => go_simp
            case hr2_18 => intro v w; go_simp
            case hi_18 =>
              intro _x e_ wf hHeld hC
              try simp only [Act.put, List.setIfInBounds_toArray, List.set_cons_zero, List.set_cons_succ]
              refine take_val (i := 5) (d := (some 69)) (v := ?_) rfl rfl (by kernel_rfl) (by kernel_rfl) (by kernel_rfl) hPQ (by rfl) (fun wq hSw => ?_) hHeld ?_
              rotate_left 1
              · replace hSw : Below x26.heap.size x26 wq := hSw; have cX := (BX.out.stays hSw).cell; have cY := (BY.out.stays hSw).cell; go_simp; try with_reducible rfl
              try simp only [Act.put, List.setIfInBounds_toArray, List.set_cons_zero, List.set_cons_succ]
              refine take_val (i := 6) (d := (some 75)) (v := ?_) rfl rfl (by kernel_rfl) (by kernel_rfl) (by kernel_rfl) hPQ (by rfl) (fun wq hSw => ?_) hHeld ?_
              rotate_left 1
              · replace hSw : Below x26.heap.size x26 wq := hSw; have cX := (BX.out.stays hSw).cell; have cY := (BY.out.stays hSw).cell; go_simp; try with_reducible rfl
              try simp only [Act.put, List.setIfInBounds_toArray, List.set_cons_zero, List.set_cons_succ]
              refine take_val (i := 7) (d := (some 76)) (v := ?_) rfl rfl (by kernel_rfl) (by kernel_rfl) (by kernel_rfl) hPQ (by rfl) (fun wq hSw => ?_) hHeld ?_
              rotate_left 1
              · replace hSw : Below x26.heap.size x26 wq := hSw; have cX := (BX.out.stays hSw).cell; have cY := (BY.out.stays hSw).cell; go_simp; try with_reducible rfl
              try simp only [Act.put, List.setIfInBounds_toArray, List.set_cons_zero, List.set_cons_succ]
              refine relist (L' := #[true, true, true, true, true, true, true, true, true, false, false]) (by kernel_rfl) ?_
              exact hC
            case hj_18 =>
              intro _x wf hHeld hC
              try simp only [Act.put, List.setIfInBounds_toArray, List.set_cons_zero, List.set_cons_succ]
              refine take_val (i := 5) (d := (some 69)) (v := ?_) rfl rfl (by kernel_rfl) (by kernel_rfl) (by kernel_rfl) hPQ (by rfl) (fun wq hSw => ?_) hHeld ?_
              rotate_left 1
              · replace hSw : Below x26.heap.size x26 wq := hSw; have cX := (BX.out.stays hSw).cell; have cY := (BY.out.stays hSw).cell; go_simp; try with_reducible rfl
              try simp only [Act.put, List.setIfInBounds_toArray, List.set_cons_zero, List.set_cons_succ]
              refine take_val (i := 6) (d := (some 75)) (v := ?_) rfl rfl (by kernel_rfl) (by kernel_rfl) (by kernel_rfl) hPQ (by rfl) (fun wq hSw => ?_) hHeld ?_
              rotate_left 1
              · replace hSw : Below x26.heap.size x26 wq := hSw; have cX := (BX.out.stays hSw).cell; have cY := (BY.out.stays hSw).cell; go_simp; try with_reducible rfl
              try simp only [Act.put, List.setIfInBounds_toArray, List.set_cons_zero, List.set_cons_succ]
              refine take_val (i := 7) (d := (some 76)) (v := ?_) rfl rfl (by kernel_rfl) (by kernel_rfl) (by kernel_rfl) hPQ (by rfl) (fun wq hSw => ?_) hHeld ?_
              rotate_left 1
              · replace hSw : Below x26.heap.size x26 wq := hSw; have cX := (BX.out.stays hSw).cell; have cY := (BY.out.stays hSw).cell; go_simp; try with_reducible rfl
              try simp only [Act.put, List.setIfInBounds_toArray, List.set_cons_zero, List.set_cons_succ]
              refine take_alloc (i := 8) (di := (some 21)) (z := #[.int .i64 0, .int .i64 0, .int .i64 0, .int .i64 0, .int .i64 0, .int .i64 0]) (T := 39) rfl rfl (by kernel_rfl) rfl (by go_simp; try with_reducible rfl) (fun w3 hb => below_via hHeld hb hHeld.size) ?_
              intro e_ w3 hg hB hb hHeld
              try simp only [Act.put, List.setIfInBounds_toArray, List.set_cons_zero, List.set_cons_succ]
              refine relist (L' := #[true, true, true, true, true, true, true, true, true, false, false]) (by kernel_rfl) ?_
              exact hC e_ w3 hg hB hb hHeld
            intro _x e_ wf hv hgf hBF hbf hHeld
            have hgf : x26.heap.size ≤ e_ := hgf
            clear hbf
            have BE := Lib.hid hBF
            clear hBF hv
            refine take_store (j := 9) (g := e_) (vs := [.int .i64 (wkV e1 e2 e3 e4 e5 e6 u0 u1 am am), .int .i64 (wkV e1 e2 e3 e4 e5 e6 u0 u1 am (e2 + u0)), .int .i64 (wkV e1 e2 e3 e4 e5 e6 u0 u1 am (e3 + u1)), .int .i64 (wkV e1 e2 e3 e4 e5 e6 u0 u1 am e4), .int .i64 0, .int .i64 0]) rfl rfl (by kernel_rfl) rfl BE.out rfl (fun cF zF => ?_) (Below.stores hgf _ _ _ hHeld) ?_
            · go_simp; rfl
            clear hHeld BE
            intro x28 hHeld hBF
            have BE := Lib.hid hBF
            clear hBF
            try simp only [Act.put, List.setIfInBounds_toArray, List.set_cons_zero, List.set_cons_succ]
            refine take_val (i := 10) (d := (some 22)) (v := ?_) rfl rfl (by kernel_rfl) (by kernel_rfl) (by kernel_rfl) hPQ (by rfl) (fun wq hSw => ?_) hHeld ?_
            rotate_left 1
            · replace hSw : Below x26.heap.size x26 wq := hSw; have cX := (BX.out.stays hSw).cell; have cY := (BY.out.stays hSw).cell; go_simp; try with_reducible rfl
            try simp only [Act.put, List.setIfInBounds_toArray, List.set_cons_zero, List.set_cons_succ]
            refine wpAnyH_done (by kernel_rfl) ?_ _
            have BU := Lib.hid (BU.out.stays hHeld)
            have BG := Lib.hid (BG.out.stays hHeld)
            have BX := Lib.hid (BX.out.stays hHeld)
            have BZ := Lib.hid (BZ.out.stays hHeld)
            have BY := Lib.hid (BY.out.stays hHeld)
            have BC := Lib.hid (BC.out.stays hHeld)
            have BD := Lib.hid (BD.out.stays hHeld)
            have BF := Lib.hid (BF.out.stays hHeld)
            have T := Lib.hid (T.out.stays hHeld)
            have R29 := Lib.hid (R27.out.trans (hHeld.mono hz_x26))
            have hz_x28 := R29.out.size
            have o_U_E : u_ < e_ := Nat.lt_of_lt_of_le l_U hgf
            have o_G_E : g_ < e_ := Nat.lt_of_lt_of_le l_G hgf
            have o_X_E : x_ < e_ := Nat.lt_of_lt_of_le l_X hgf
            have o_Z_E : z_ < e_ := Nat.lt_of_lt_of_le l_Z hgf
            have o_Y_E : y_ < e_ := Nat.lt_of_lt_of_le l_Y hgf
            have o_C_E : c_ < e_ := Nat.lt_of_lt_of_le l_C hgf
            have o_D_E : d_ < e_ := Nat.lt_of_lt_of_le l_D hgf
            have o_F_E : f_ < e_ := Nat.lt_of_lt_of_le l_F hgf
            have g_E : w.heap.size ≤ e_ := Nat.le_trans hz_x26 hgf
            clear hHeld hgf R27 hz_x26 l_U l_G l_X l_Z l_Y l_C l_D l_F
            have kC_0 : x28.cell? ⟨c_, 0, none⟩ = some (.int .i64 (wkV e1 e2 e3 e4 e5 e6 u0 u1 a a)) := BC.out.cell 0
            have kC_1 : x28.cell? ⟨c_, 1, none⟩ = some (.int .i64 (wkV e1 e2 e3 e4 e5 e6 u0 u1 a (e2 + u0))) := BC.out.cell 1
            have kC_2 : x28.cell? ⟨c_, 2, none⟩ = some (.int .i64 (wkV e1 e2 e3 e4 e5 e6 u0 u1 a (e3 + u1))) := BC.out.cell 2
            have kC_3 : x28.cell? ⟨c_, 3, none⟩ = some (.int .i64 (wkV e1 e2 e3 e4 e5 e6 u0 u1 a e4)) := BC.out.cell 3
            have kC_4 : x28.cell? ⟨c_, 4, none⟩ = some (.int .i64 0) := BC.out.cell 4
            have kC_5 : x28.cell? ⟨c_, 5, none⟩ = some (.int .i64 0) := BC.out.cell 5
            have kD_0 : x28.cell? ⟨d_, 0, none⟩ = some (.int .i64 (wkV e1 e2 e3 e4 e5 e6 u0 u1 a a)) := BD.out.cell 0
            have kD_1 : x28.cell? ⟨d_, 1, none⟩ = some (.int .i64 (wkV e1 e2 e3 e4 e5 e6 u0 u1 a (e2 + u0))) := BD.out.cell 1
            have kD_2 : x28.cell? ⟨d_, 2, none⟩ = some (.int .i64 (wkV e1 e2 e3 e4 e5 e6 u0 u1 a (e3 + u1))) := BD.out.cell 2
            have kD_3 : x28.cell? ⟨d_, 3, none⟩ = some (.int .i64 (wkV e1 e2 e3 e4 e5 e6 u0 u1 a e4)) := BD.out.cell 3
            have kD_4 : x28.cell? ⟨d_, 4, none⟩ = some (.int .i64 0) := BD.out.cell 4
            have kD_5 : x28.cell? ⟨d_, 5, none⟩ = some (.int .i64 0) := BD.out.cell 5
            have kF_0 : x28.cell? ⟨f_, 0, none⟩ = some (.int .i64 (wkV e1 e2 e3 e4 e5 e6 u0 u1 am am)) := BF.out.cell 0
            have kF_1 : x28.cell? ⟨f_, 1, none⟩ = some (.int .i64 (wkV e1 e2 e3 e4 e5 e6 u0 u1 am (e2 + u0))) := BF.out.cell 1
            have kF_2 : x28.cell? ⟨f_, 2, none⟩ = some (.int .i64 (wkV e1 e2 e3 e4 e5 e6 u0 u1 am (e3 + u1))) := BF.out.cell 2
            have kF_3 : x28.cell? ⟨f_, 3, none⟩ = some (.int .i64 (wkV e1 e2 e3 e4 e5 e6 u0 u1 am e4)) := BF.out.cell 3
            have kF_4 : x28.cell? ⟨f_, 4, none⟩ = some (.int .i64 0) := BF.out.cell 4
            have kF_5 : x28.cell? ⟨f_, 5, none⟩ = some (.int .i64 0) := BF.out.cell 5
            have kE_0 : x28.cell? ⟨e_, 0, none⟩ = some (.int .i64 (wkV e1 e2 e3 e4 e5 e6 u0 u1 am am)) := BE.out.cell 0
            have kE_1 : x28.cell? ⟨e_, 1, none⟩ = some (.int .i64 (wkV e1 e2 e3 e4 e5 e6 u0 u1 am (e2 + u0))) := BE.out.cell 1
            have kE_2 : x28.cell? ⟨e_, 2, none⟩ = some (.int .i64 (wkV e1 e2 e3 e4 e5 e6 u0 u1 am (e3 + u1))) := BE.out.cell 2
            have kE_3 : x28.cell? ⟨e_, 3, none⟩ = some (.int .i64 (wkV e1 e2 e3 e4 e5 e6 u0 u1 am e4)) := BE.out.cell 3
            have kE_4 : x28.cell? ⟨e_, 4, none⟩ = some (.int .i64 0) := BE.out.cell 4
            have kE_5 : x28.cell? ⟨e_, 5, none⟩ = some (.int .i64 0) := BE.out.cell 5
            go_wp2
            go_roundw
            case rel => exact ⟨j + 1, by omega, by go_num, T.out, BU.out, BG.out, BX.out, BZ.out, R29.out⟩
            case measure => simp [intOf]; omega
          · have hj2n : ¬ (j : Int) < 2 := by omega
            go_wp2
            go_roundw
            case rel => exact ⟨k + 1, k2, by omega, by go_num, T.out, BU.out, BG.out, RS.out⟩
            case measure => simp [intOf]; omega
    · have hkn : ¬ (k : Int) < 2 := by omega
      go_wp2_with fail
      refine (psKnown _).mono ?_
      rintro e w3 ⟨rfl, hb⟩
      have hB := RW.out.trans (hb.mono hz_wr)
      clear hb
      go_wp2
      go_ret
      exact ⟨rfl, hB⟩
end Go.Proofs.Ytbjmojajhkhekaa
