/- The walk of InterleaveRefusesStrangers. -/
import Derived.Test.YtnpfndlmbaafaaaIlK
import Derived.Test.YtnpfndlmbaafaaaTape
import Derived.IntWalk
namespace Go.Proofs.Ytnpfndlmbaafaaa
open Go.RowKit

set_option maxRecDepth 100000 in
set_option maxHeartbeats 4000000 in
theorem interleaveRefuses_walk (A : Option Addr) (n c : Nat) (l : List Int) (g : Nat) (w : World) (hv : Rd w 1 A n c (l.map (Value.int .i64))) :
    Calls Try.prog 9 #[.slice A n c, .int .u64 g] w fun e w' => e = .returned (.bool true) ∧ Below w.heap.size w w' := by
  have V := Lib.hid hv
  have hvc := hv.2.2.1
  have hvn := hv.2.1
  clear hv
  go_enter Try.func9, Try.ntmps9
  go_wp2_with fail
  refine (tape_new A n c l _ V.out (by unfold maxLen at hvc; omega)).mono ?_
  rintro e y1 ⟨tb, rfl, ht, hb⟩
  have hbx : Below w.heap.size w y1 := below_via (by go_grown) hb (by first | (simp; done) | (simp; omega))
  have T := Lib.hid ht
  have R2 := Lib.hid hbx
  have hz_y1 := R2.out.size
  clear hb hbx ht
  have tge := T.out.ge
  go_wp2_with fail
  refine (int_any _ _ _ _ 1000 (by decide) (by decide) _ T.out).mono ?_
  rintro e y3 ⟨k_, rfl, ht, ho⟩
  obtain ⟨m1, hm1⟩ : ∃ m1 : Nat, tapeAt l _ % 1000 = (m1 : Int) := Int.eq_ofNat_of_zero_le (Int.emod_nonneg _ (by decide))
  have bm1 : m1 < 1000 := by omega
  rw [hm1]
  clear hm1
  have R4 := Lib.hid (R2.out.trans ((Below.refl _ y1).grown ho hz_y1 (fun k hk => by simp at hk; subst hk; exact T.out.ge)))
  have hz_y3 := R4.out.size
  have T := Lib.hid ht
  clear ht ho R2 hz_y1
  obtain ⟨t0, e0⟩ : ∃ t0 : Nat, (1 : Int) + (m1 : Int) = (t0 : Int) := ⟨1 + m1, by omega⟩
  have ht0 : ¬ t0 = 0 := by omega
  have wt0 : IntKind.u64.wrap (t0 : Int) = (t0 : Int) := IntWalk.u64_in _ (by omega)
  by_cases hg : g = t0
  · have hgd : ((g : Int) == (t0 : Int)) = true := by simp; omega
    have HG := Lib.hid hg
    clear hg
    go_wp2_with fail
    refine (int_any _ _ _ _ 9 (by decide) (by decide) _ T.out).mono ?_
    rintro e y5 ⟨k_, rfl, ht, ho⟩
    obtain ⟨m2, hm2⟩ : ∃ m2 : Nat, tapeAt l _ % 9 = (m2 : Int) := Int.eq_ofNat_of_zero_le (Int.emod_nonneg _ (by decide))
    have bm2 : m2 < 9 := by omega
    rw [hm2]
    clear hm2
    have R6 := Lib.hid (R4.out.trans ((Below.refl _ y3).grown ho hz_y3 (fun k hk => by simp at hk; subst hk; exact T.out.ge)))
    have hz_y5 := R6.out.size
    have T := Lib.hid ht
    clear ht ho R4 hz_y3
    go_wp2_with fail
    refine (ilAsk_fresh false 0 0 0 0 0 0 t0 m2 (by omega) (by omega) ht0 _).mono ?_
    rintro e y7 ⟨rfl, hb⟩
    have hbx : Below y5.heap.size y5 y7 := below_via (by go_grown) hb (by first | (simp; done) | (simp; omega))
    have R8 := Lib.hid (R6.out.trans (hbx.mono hz_y5))
    have hz_y7 := R8.out.size
    clear hb hbx  R6 hz_y5
    clear e0 wt0
    go_upto_region 3 with fail
    obtain ⟨x9, i_, h_, ex9, ei_, eh_⟩ : ∃ x9 i_ h_, x9 = (y7.alloc (.cells #[.bool true, .bool false, .int .u64 t0, .int .i64 m2, .int .i64 0, .int .i64 0, .int .u64 0, .int .u64 0] 61)).alloc (.cells #[.int .i64 0, .int .i64 4, .int .i64 3, .int .i64 0, .int .i64 6, .int .i64 0, .int .u32 0, .int .u32 0, .int .u32 0, .int .u64 0, .int .u64 0, .int .u64 0, .int .u64 t0] 25) ∧ i_ = y7.heap.size ∧ h_ = y7.heap.size + 1 := ⟨_, _, _, rfl, rfl, rfl⟩
    rw [← ex9, ← eh_, ← ei_]
    have hbx : Below y7.heap.size y7 x9 := by rw [ex9]; exact below_alloc2 _ _ _ 
    have o_I_H : i_ < h_ := by omega
    have g_I : w.heap.size ≤ i_ := by rw [ei_]; exact hz_y7
    have BI := Lib.hid (show Blk x9 i_ 61 #[.bool true, .bool false, .int .u64 t0, .int .i64 m2, .int .i64 0, .int .i64 0, .int .u64 0, .int .u64 0] by rw [ex9, ei_]; exact blk_new2_0 _ _ _ _ _ )
    have BH := Lib.hid (show Blk x9 h_ 25 #[.int .i64 0, .int .i64 4, .int .i64 3, .int .i64 0, .int .i64 6, .int .i64 0, .int .u32 0, .int .u32 0, .int .u32 0, .int .u64 0, .int .u64 0, .int .u64 0, .int .u64 t0] by rw [ex9, eh_]; exact blk_new2_1 _ _ _ _ _ )
    have R10 := Lib.hid (R8.out.trans (hbx.mono hz_y7))
    have hz_x9 := R10.out.size
    clear hbx ex9 ei_ eh_ R8 hz_y7
    have kH_0 : x9.cell? ⟨h_, 0, none⟩ = some (.int .i64 0) := BH.out.cell 0
    have kH_1 : x9.cell? ⟨h_, 1, none⟩ = some (.int .i64 4) := BH.out.cell 1
    have kH_2 : x9.cell? ⟨h_, 2, none⟩ = some (.int .i64 3) := BH.out.cell 2
    have kH_3 : x9.cell? ⟨h_, 3, none⟩ = some (.int .i64 0) := BH.out.cell 3
    have kH_4 : x9.cell? ⟨h_, 4, none⟩ = some (.int .i64 6) := BH.out.cell 4
    have kH_5 : x9.cell? ⟨h_, 5, none⟩ = some (.int .i64 0) := BH.out.cell 5
    have kH_6 : x9.cell? ⟨h_, 6, none⟩ = some (.int .u32 0) := BH.out.cell 6
    have kH_7 : x9.cell? ⟨h_, 7, none⟩ = some (.int .u32 0) := BH.out.cell 7
    have kH_8 : x9.cell? ⟨h_, 8, none⟩ = some (.int .u32 0) := BH.out.cell 8
    have kH_9 : x9.cell? ⟨h_, 9, none⟩ = some (.int .u64 0) := BH.out.cell 9
    have kH_10 : x9.cell? ⟨h_, 10, none⟩ = some (.int .u64 0) := BH.out.cell 10
    have kH_11 : x9.cell? ⟨h_, 11, none⟩ = some (.int .u64 0) := BH.out.cell 11
    have kH_12 : x9.cell? ⟨h_, 12, none⟩ = some (.int .u64 t0) := BH.out.cell 12
    go_wp2_with fail
    refine (serve_zero_lt none 0 0 [] 0 4 3 0 6 0 0 0 0 0 0 0 t0 1 50 60 _ (Echs.nil _) (by decide) rfl (by decide) (by decide) (by decide) (by decide) rfl).mono ?_
    rintro e y11 ⟨A1, c1, rfl, hm, hf, hb⟩
    clear kH_0 kH_1 kH_2 kH_3 kH_4 kH_5 kH_6 kH_7 kH_8 kH_9 kH_10 kH_11 kH_12
    have hbx : Below x9.heap.size x9 y11 := below_via (by go_grown) hb (by first | (simp; done) | (simp; omega))
    have BI := Lib.hid (BI.out.stays hbx)
    have BH := Lib.hid (BH.out.stays hbx)
    have R12 := Lib.hid (R10.out.trans (hbx.mono hz_x9))
    have hz_y11 := R12.out.size
    clear hb hbx  R10 hz_x9
    clear hf hm
    go_upto_region 4 with fail
    obtain ⟨x13, a_, ex13, ea_⟩ : ∃ x13 a_, x13 = y11.alloc (.cells #[.int .i64 0, .int .i64 4, .int .i64 4, .int .i64 1, .int .i64 6, .int .i64 (-20), .int .u32 0, .int .u32 0, .int .u32 0, .int .u64 0, .int .u64 t0, .int .u64 50, .int .u64 60] 25) ∧ a_ = y11.heap.size := ⟨_, _, rfl, rfl⟩
    rw [← ex13, ← ea_]
    have hbx : Below y11.heap.size y11 x13 := by rw [ex13]; exact below_alloc1 _ _ 
    have o_I_A : i_ < a_ := by rw [ea_]; exact BI.out.lt
    have o_H_A : h_ < a_ := by rw [ea_]; exact BH.out.lt
    have g_A : w.heap.size ≤ a_ := by rw [ea_]; exact hz_y11
    have BI := Lib.hid (BI.out.stays hbx)
    have BH := Lib.hid (BH.out.stays hbx)
    have BA := Lib.hid (show Blk x13 a_ 25 #[.int .i64 0, .int .i64 4, .int .i64 4, .int .i64 1, .int .i64 6, .int .i64 (-20), .int .u32 0, .int .u32 0, .int .u32 0, .int .u64 0, .int .u64 t0, .int .u64 50, .int .u64 60] by rw [ex13, ea_]; exact blk_new1_0 _ _ _ )
    have R14 := Lib.hid (R12.out.trans (hbx.mono hz_y11))
    have hz_x13 := R14.out.size
    clear hbx ex13 ea_ R12 hz_y11
    have kA_0 : x13.cell? ⟨a_, 0, none⟩ = some (.int .i64 0) := BA.out.cell 0
    have kA_1 : x13.cell? ⟨a_, 1, none⟩ = some (.int .i64 4) := BA.out.cell 1
    have kA_2 : x13.cell? ⟨a_, 2, none⟩ = some (.int .i64 4) := BA.out.cell 2
    have kA_3 : x13.cell? ⟨a_, 3, none⟩ = some (.int .i64 1) := BA.out.cell 3
    have kA_4 : x13.cell? ⟨a_, 4, none⟩ = some (.int .i64 6) := BA.out.cell 4
    have kA_5 : x13.cell? ⟨a_, 5, none⟩ = some (.int .i64 (-20)) := BA.out.cell 5
    have kA_6 : x13.cell? ⟨a_, 6, none⟩ = some (.int .u32 0) := BA.out.cell 6
    have kA_7 : x13.cell? ⟨a_, 7, none⟩ = some (.int .u32 0) := BA.out.cell 7
    have kA_8 : x13.cell? ⟨a_, 8, none⟩ = some (.int .u32 0) := BA.out.cell 8
    have kA_9 : x13.cell? ⟨a_, 9, none⟩ = some (.int .u64 0) := BA.out.cell 9
    have kA_10 : x13.cell? ⟨a_, 10, none⟩ = some (.int .u64 t0) := BA.out.cell 10
    have kA_11 : x13.cell? ⟨a_, 11, none⟩ = some (.int .u64 50) := BA.out.cell 11
    have kA_12 : x13.cell? ⟨a_, 12, none⟩ = some (.int .u64 60) := BA.out.cell 12
    go_upto_region 5 with fail
    clear kA_0 kA_1 kA_2 kA_3 kA_4 kA_5 kA_6 kA_7 kA_8 kA_9 kA_10 kA_11 kA_12
    obtain ⟨x15, c_, ex15, ec_⟩ : ∃ x15 c_, x15 = x13.alloc (.cells #[.int .i64 0, .int .i64 4, .int .i64 4, .int .i64 1, .int .i64 6, .int .i64 (-20), .int .u32 0, .int .u32 0, .int .u32 0, .int .u64 0, .int .u64 t0, .int .u64 50, .int .u64 60] 25) ∧ c_ = x13.heap.size := ⟨_, _, rfl, rfl⟩
    rw [← ex15, ← ec_]
    have hbx : Below x13.heap.size x13 x15 := by rw [ex15]; exact below_alloc1 _ _ 
    have o_I_C : i_ < c_ := by rw [ec_]; exact BI.out.lt
    have o_H_C : h_ < c_ := by rw [ec_]; exact BH.out.lt
    have o_A_C : a_ < c_ := by rw [ec_]; exact BA.out.lt
    have g_C : w.heap.size ≤ c_ := by rw [ec_]; exact hz_x13
    have BI := Lib.hid (BI.out.stays hbx)
    have BH := Lib.hid (BH.out.stays hbx)
    have BA := Lib.hid (BA.out.stays hbx)
    have BC := Lib.hid (show Blk x15 c_ 25 #[.int .i64 0, .int .i64 4, .int .i64 4, .int .i64 1, .int .i64 6, .int .i64 (-20), .int .u32 0, .int .u32 0, .int .u32 0, .int .u64 0, .int .u64 t0, .int .u64 50, .int .u64 60] by rw [ex15, ec_]; exact blk_new1_0 _ _ _ )
    have R16 := Lib.hid (R14.out.trans (hbx.mono hz_x13))
    have hz_x15 := R16.out.size
    clear hbx ex15 ec_ R14 hz_x13
    have kC_10 : x15.cell? ⟨c_, 10, none⟩ = some (.int .u64 t0) := BC.out.cell 10
    have fC_10 := BC.out.frozen 10
    go_upto_region 6 with fail
    clear kC_10 fC_10
    obtain ⟨x17, ex17⟩ : ∃ x17, x17 = x15.setCell ⟨c_, 10, none⟩ (.int .u64 g) := ⟨_, rfl⟩
    rw [← ex17]
    have BI := Lib.hid (show Blk x17 i_ 61 #[.bool true, .bool false, .int .u64 t0, .int .i64 m2, .int .i64 0, .int .i64 0, .int .u64 0, .int .u64 0] from by rw [ex17]; exact (BI.out.far (p := ⟨c_, 10, none⟩) (by simp only []; omega) _))
    have BH := Lib.hid (show Blk x17 h_ 25 #[.int .i64 0, .int .i64 4, .int .i64 3, .int .i64 0, .int .i64 6, .int .i64 0, .int .u32 0, .int .u32 0, .int .u32 0, .int .u64 0, .int .u64 0, .int .u64 0, .int .u64 t0] from by rw [ex17]; exact (BH.out.far (p := ⟨c_, 10, none⟩) (by simp only []; omega) _))
    have BA := Lib.hid (show Blk x17 a_ 25 #[.int .i64 0, .int .i64 4, .int .i64 4, .int .i64 1, .int .i64 6, .int .i64 (-20), .int .u32 0, .int .u32 0, .int .u32 0, .int .u64 0, .int .u64 t0, .int .u64 50, .int .u64 60] from by rw [ex17]; exact (BA.out.far (p := ⟨c_, 10, none⟩) (by simp only []; omega) _))
    have BC := Lib.hid (show Blk x17 c_ 25 #[.int .i64 0, .int .i64 4, .int .i64 4, .int .i64 1, .int .i64 6, .int .i64 (-20), .int .u32 0, .int .u32 0, .int .u32 0, .int .u64 0, .int .u64 g, .int .u64 50, .int .u64 60] from by rw [ex17]; exact (BC.out.put 10 _))
    have R18 := Lib.hid (show Below w.heap.size w x17 from by rw [ex17]; exact (R16.out.setCell (p := ⟨c_, 10, none⟩) (by simp only []; omega) _))
    have hz_x17 := R18.out.size
    clear R16 hz_x15
    clear ex17
    have kI_0 : x17.cell? ⟨i_, 0, none⟩ = some (.bool true) := BI.out.cell 0
    have kI_1 : x17.cell? ⟨i_, 1, none⟩ = some (.bool false) := BI.out.cell 1
    have kI_2 : x17.cell? ⟨i_, 2, none⟩ = some (.int .u64 t0) := BI.out.cell 2
    have kI_3 : x17.cell? ⟨i_, 3, none⟩ = some (.int .i64 m2) := BI.out.cell 3
    have kI_4 : x17.cell? ⟨i_, 4, none⟩ = some (.int .i64 0) := BI.out.cell 4
    have kI_5 : x17.cell? ⟨i_, 5, none⟩ = some (.int .i64 0) := BI.out.cell 5
    have kI_6 : x17.cell? ⟨i_, 6, none⟩ = some (.int .u64 0) := BI.out.cell 6
    have kI_7 : x17.cell? ⟨i_, 7, none⟩ = some (.int .u64 0) := BI.out.cell 7
    have kC_0 : x17.cell? ⟨c_, 0, none⟩ = some (.int .i64 0) := BC.out.cell 0
    have kC_1 : x17.cell? ⟨c_, 1, none⟩ = some (.int .i64 4) := BC.out.cell 1
    have kC_2 : x17.cell? ⟨c_, 2, none⟩ = some (.int .i64 4) := BC.out.cell 2
    have kC_3 : x17.cell? ⟨c_, 3, none⟩ = some (.int .i64 1) := BC.out.cell 3
    have kC_4 : x17.cell? ⟨c_, 4, none⟩ = some (.int .i64 6) := BC.out.cell 4
    have kC_5 : x17.cell? ⟨c_, 5, none⟩ = some (.int .i64 (-20)) := BC.out.cell 5
    have kC_6 : x17.cell? ⟨c_, 6, none⟩ = some (.int .u32 0) := BC.out.cell 6
    have kC_7 : x17.cell? ⟨c_, 7, none⟩ = some (.int .u32 0) := BC.out.cell 7
    have kC_8 : x17.cell? ⟨c_, 8, none⟩ = some (.int .u32 0) := BC.out.cell 8
    have kC_9 : x17.cell? ⟨c_, 9, none⟩ = some (.int .u64 0) := BC.out.cell 9
    have kC_10 : x17.cell? ⟨c_, 10, none⟩ = some (.int .u64 g) := BC.out.cell 10
    have kC_11 : x17.cell? ⟨c_, 11, none⟩ = some (.int .u64 50) := BC.out.cell 11
    have kC_12 : x17.cell? ⟨c_, 12, none⟩ = some (.int .u64 60) := BC.out.cell 12
    go_wp2_with fail
    refine (ilTake_basic false t0 m2 0 0 0 0 0 4 4 1 6 (-20) 0 0 0 0 g 50 60 100 (by decide) (by decide) (by omega) rfl HG.out _).mono ?_
    rintro e y19 ⟨rfl, hb⟩
    clear kI_0 kI_1 kI_2 kI_3 kI_4 kI_5 kI_6 kI_7 kC_0 kC_1 kC_2 kC_3 kC_4 kC_5 kC_6 kC_7 kC_8 kC_9 kC_10 kC_11 kC_12
    have hbx : Below x17.heap.size x17 y19 := below_via (by go_grown) hb (by first | (simp; done) | (simp; omega))
    have BI := Lib.hid (BI.out.stays hbx)
    have BH := Lib.hid (BH.out.stays hbx)
    have BA := Lib.hid (BA.out.stays hbx)
    have BC := Lib.hid (BC.out.stays hbx)
    have R20 := Lib.hid (R18.out.trans (hbx.mono hz_x17))
    have hz_y19 := R20.out.size
    clear hb hbx  R18 hz_x17
    go_upto_region 7 with fail
    obtain ⟨x21, j_, r_, ex21, ej_, er_⟩ : ∃ x21 j_ r_, x21 = (y19.alloc (.cells #[.bool false, .bool true, .int .u64 0, .int .i64 0, .int .i64 m2, .int .i64 100, .int .u64 50, .int .u64 t0] 61)).alloc (.cells #[.int .i64 m2, .int .i64 100, .int .u64 50, .int .u64 60, .bool false] 71) ∧ j_ = y19.heap.size ∧ r_ = y19.heap.size + 1 := ⟨_, _, _, rfl, rfl, rfl⟩
    rw [← ex21, ← er_, ← ej_]
    have hbx : Below y19.heap.size y19 x21 := by rw [ex21]; exact below_alloc2 _ _ _ 
    have o_I_J : i_ < j_ := by rw [ej_]; exact BI.out.lt
    have o_H_J : h_ < j_ := by rw [ej_]; exact BH.out.lt
    have o_A_J : a_ < j_ := by rw [ej_]; exact BA.out.lt
    have o_C_J : c_ < j_ := by rw [ej_]; exact BC.out.lt
    have o_J_R : j_ < r_ := by omega
    have g_J : w.heap.size ≤ j_ := by rw [ej_]; exact hz_y19
    have BI := Lib.hid (BI.out.stays hbx)
    have BH := Lib.hid (BH.out.stays hbx)
    have BA := Lib.hid (BA.out.stays hbx)
    have BC := Lib.hid (BC.out.stays hbx)
    have BJ := Lib.hid (show Blk x21 j_ 61 #[.bool false, .bool true, .int .u64 0, .int .i64 0, .int .i64 m2, .int .i64 100, .int .u64 50, .int .u64 t0] by rw [ex21, ej_]; exact blk_new2_0 _ _ _ _ _ )
    have BR := Lib.hid (show Blk x21 r_ 71 #[.int .i64 m2, .int .i64 100, .int .u64 50, .int .u64 60, .bool false] by rw [ex21, er_]; exact blk_new2_1 _ _ _ _ _ )
    have R22 := Lib.hid (R20.out.trans (hbx.mono hz_y19))
    have hz_x21 := R22.out.size
    clear hbx ex21 ej_ er_ R20 hz_y19
    have kI_0 : x21.cell? ⟨i_, 0, none⟩ = some (.bool true) := BI.out.cell 0
    have kI_1 : x21.cell? ⟨i_, 1, none⟩ = some (.bool false) := BI.out.cell 1
    have kI_2 : x21.cell? ⟨i_, 2, none⟩ = some (.int .u64 t0) := BI.out.cell 2
    have kI_3 : x21.cell? ⟨i_, 3, none⟩ = some (.int .i64 m2) := BI.out.cell 3
    have kI_4 : x21.cell? ⟨i_, 4, none⟩ = some (.int .i64 0) := BI.out.cell 4
    have kI_5 : x21.cell? ⟨i_, 5, none⟩ = some (.int .i64 0) := BI.out.cell 5
    have kI_6 : x21.cell? ⟨i_, 6, none⟩ = some (.int .u64 0) := BI.out.cell 6
    have kI_7 : x21.cell? ⟨i_, 7, none⟩ = some (.int .u64 0) := BI.out.cell 7
    have kA_0 : x21.cell? ⟨a_, 0, none⟩ = some (.int .i64 0) := BA.out.cell 0
    have kA_1 : x21.cell? ⟨a_, 1, none⟩ = some (.int .i64 4) := BA.out.cell 1
    have kA_2 : x21.cell? ⟨a_, 2, none⟩ = some (.int .i64 4) := BA.out.cell 2
    have kA_3 : x21.cell? ⟨a_, 3, none⟩ = some (.int .i64 1) := BA.out.cell 3
    have kA_4 : x21.cell? ⟨a_, 4, none⟩ = some (.int .i64 6) := BA.out.cell 4
    have kA_5 : x21.cell? ⟨a_, 5, none⟩ = some (.int .i64 (-20)) := BA.out.cell 5
    have kA_6 : x21.cell? ⟨a_, 6, none⟩ = some (.int .u32 0) := BA.out.cell 6
    have kA_7 : x21.cell? ⟨a_, 7, none⟩ = some (.int .u32 0) := BA.out.cell 7
    have kA_8 : x21.cell? ⟨a_, 8, none⟩ = some (.int .u32 0) := BA.out.cell 8
    have kA_9 : x21.cell? ⟨a_, 9, none⟩ = some (.int .u64 0) := BA.out.cell 9
    have kA_10 : x21.cell? ⟨a_, 10, none⟩ = some (.int .u64 t0) := BA.out.cell 10
    have kA_11 : x21.cell? ⟨a_, 11, none⟩ = some (.int .u64 50) := BA.out.cell 11
    have kA_12 : x21.cell? ⟨a_, 12, none⟩ = some (.int .u64 60) := BA.out.cell 12
    go_wp2_with fail
    refine (ilTake_basic false t0 m2 0 0 0 0 0 4 4 1 6 (-20) 0 0 0 0 t0 50 60 100 (by decide) (by decide) (by omega) rfl rfl _).mono ?_
    rintro e y23 ⟨rfl, hb⟩
    clear kI_0 kI_1 kI_2 kI_3 kI_4 kI_5 kI_6 kI_7 kA_0 kA_1 kA_2 kA_3 kA_4 kA_5 kA_6 kA_7 kA_8 kA_9 kA_10 kA_11 kA_12
    have hbx : Below x21.heap.size x21 y23 := below_via (by go_grown) hb (by first | (simp; done) | (simp; omega))
    have BI := Lib.hid (BI.out.stays hbx)
    have BH := Lib.hid (BH.out.stays hbx)
    have BA := Lib.hid (BA.out.stays hbx)
    have BC := Lib.hid (BC.out.stays hbx)
    have BJ := Lib.hid (BJ.out.stays hbx)
    have BR := Lib.hid (BR.out.stays hbx)
    have R24 := Lib.hid (R22.out.trans (hbx.mono hz_x21))
    have hz_y23 := R24.out.size
    clear hb hbx  R22 hz_x21
    go_upto_region 8 with fail
    obtain ⟨x25, k_, s_, ex25, ek_, es_⟩ : ∃ x25 k_ s_, x25 = (y23.alloc (.cells #[.bool false, .bool true, .int .u64 0, .int .i64 0, .int .i64 m2, .int .i64 100, .int .u64 50, .int .u64 t0] 61)).alloc (.cells #[.int .i64 m2, .int .i64 100, .int .u64 50, .int .u64 60, .bool false] 71) ∧ k_ = y23.heap.size ∧ s_ = y23.heap.size + 1 := ⟨_, _, _, rfl, rfl, rfl⟩
    rw [← ex25, ← es_, ← ek_]
    have hbx : Below y23.heap.size y23 x25 := by rw [ex25]; exact below_alloc2 _ _ _ 
    have o_I_K : i_ < k_ := by rw [ek_]; exact BI.out.lt
    have o_H_K : h_ < k_ := by rw [ek_]; exact BH.out.lt
    have o_A_K : a_ < k_ := by rw [ek_]; exact BA.out.lt
    have o_C_K : c_ < k_ := by rw [ek_]; exact BC.out.lt
    have o_J_K : j_ < k_ := by rw [ek_]; exact BJ.out.lt
    have o_R_K : r_ < k_ := by rw [ek_]; exact BR.out.lt
    have o_K_S : k_ < s_ := by omega
    have g_K : w.heap.size ≤ k_ := by rw [ek_]; exact hz_y23
    have BI := Lib.hid (BI.out.stays hbx)
    have BH := Lib.hid (BH.out.stays hbx)
    have BA := Lib.hid (BA.out.stays hbx)
    have BC := Lib.hid (BC.out.stays hbx)
    have BJ := Lib.hid (BJ.out.stays hbx)
    have BR := Lib.hid (BR.out.stays hbx)
    have BK := Lib.hid (show Blk x25 k_ 61 #[.bool false, .bool true, .int .u64 0, .int .i64 0, .int .i64 m2, .int .i64 100, .int .u64 50, .int .u64 t0] by rw [ex25, ek_]; exact blk_new2_0 _ _ _ _ _ )
    have BS := Lib.hid (show Blk x25 s_ 71 #[.int .i64 m2, .int .i64 100, .int .u64 50, .int .u64 60, .bool false] by rw [ex25, es_]; exact blk_new2_1 _ _ _ _ _ )
    have R26 := Lib.hid (R24.out.trans (hbx.mono hz_y23))
    have hz_x25 := R26.out.size
    clear hbx ex25 ek_ es_ R24 hz_y23
    have kK_0 : x25.cell? ⟨k_, 0, none⟩ = some (.bool false) := BK.out.cell 0
    have kK_1 : x25.cell? ⟨k_, 1, none⟩ = some (.bool true) := BK.out.cell 1
    have kK_2 : x25.cell? ⟨k_, 2, none⟩ = some (.int .u64 0) := BK.out.cell 2
    have kK_3 : x25.cell? ⟨k_, 3, none⟩ = some (.int .i64 0) := BK.out.cell 3
    have kK_4 : x25.cell? ⟨k_, 4, none⟩ = some (.int .i64 m2) := BK.out.cell 4
    have kK_5 : x25.cell? ⟨k_, 5, none⟩ = some (.int .i64 100) := BK.out.cell 5
    have kK_6 : x25.cell? ⟨k_, 6, none⟩ = some (.int .u64 50) := BK.out.cell 6
    have kK_7 : x25.cell? ⟨k_, 7, none⟩ = some (.int .u64 t0) := BK.out.cell 7
    have kA_0 : x25.cell? ⟨a_, 0, none⟩ = some (.int .i64 0) := BA.out.cell 0
    have kA_1 : x25.cell? ⟨a_, 1, none⟩ = some (.int .i64 4) := BA.out.cell 1
    have kA_2 : x25.cell? ⟨a_, 2, none⟩ = some (.int .i64 4) := BA.out.cell 2
    have kA_3 : x25.cell? ⟨a_, 3, none⟩ = some (.int .i64 1) := BA.out.cell 3
    have kA_4 : x25.cell? ⟨a_, 4, none⟩ = some (.int .i64 6) := BA.out.cell 4
    have kA_5 : x25.cell? ⟨a_, 5, none⟩ = some (.int .i64 (-20)) := BA.out.cell 5
    have kA_6 : x25.cell? ⟨a_, 6, none⟩ = some (.int .u32 0) := BA.out.cell 6
    have kA_7 : x25.cell? ⟨a_, 7, none⟩ = some (.int .u32 0) := BA.out.cell 7
    have kA_8 : x25.cell? ⟨a_, 8, none⟩ = some (.int .u32 0) := BA.out.cell 8
    have kA_9 : x25.cell? ⟨a_, 9, none⟩ = some (.int .u64 0) := BA.out.cell 9
    have kA_10 : x25.cell? ⟨a_, 10, none⟩ = some (.int .u64 t0) := BA.out.cell 10
    have kA_11 : x25.cell? ⟨a_, 11, none⟩ = some (.int .u64 50) := BA.out.cell 11
    have kA_12 : x25.cell? ⟨a_, 12, none⟩ = some (.int .u64 60) := BA.out.cell 12
    go_wp2_with fail
    refine (ilTake_state true 0 0 m2 100 50 t0 0 4 4 1 6 (-20) 0 0 0 0 t0 50 60 100 _).mono ?_
    rintro e y27 ⟨rfl, hb⟩
    clear kK_0 kK_1 kK_2 kK_3 kK_4 kK_5 kK_6 kK_7 kA_0 kA_1 kA_2 kA_3 kA_4 kA_5 kA_6 kA_7 kA_8 kA_9 kA_10 kA_11 kA_12
    have hbx : Below x25.heap.size x25 y27 := below_via (by go_grown) hb (by first | (simp; done) | (simp; omega))
    have BI := Lib.hid (BI.out.stays hbx)
    have BH := Lib.hid (BH.out.stays hbx)
    have BA := Lib.hid (BA.out.stays hbx)
    have BC := Lib.hid (BC.out.stays hbx)
    have BJ := Lib.hid (BJ.out.stays hbx)
    have BR := Lib.hid (BR.out.stays hbx)
    have BK := Lib.hid (BK.out.stays hbx)
    have BS := Lib.hid (BS.out.stays hbx)
    have R28 := Lib.hid (R26.out.trans (hbx.mono hz_x25))
    have hz_y27 := R28.out.size
    clear hb hbx  R26 hz_x25
    go_upto_region 9 with fail
    obtain ⟨x29, p_, u_, ex29, ep_, eu_⟩ : ∃ x29 p_ u_, x29 = (y27.alloc (.cells #[.bool false, .bool false, .int .u64 0, .int .i64 0, .int .i64 0, .int .i64 0, .int .u64 0, .int .u64 0] 61)).alloc (.cells #[.int .i64 0, .int .i64 0, .int .u64 0, .int .u64 0, .bool false] 71) ∧ p_ = y27.heap.size ∧ u_ = y27.heap.size + 1 := ⟨_, _, _, rfl, rfl, rfl⟩
    rw [← ex29, ← eu_, ← ep_]
    have hbx : Below y27.heap.size y27 x29 := by rw [ex29]; exact below_alloc2 _ _ _ 
    have o_I_P : i_ < p_ := by rw [ep_]; exact BI.out.lt
    have o_H_P : h_ < p_ := by rw [ep_]; exact BH.out.lt
    have o_A_P : a_ < p_ := by rw [ep_]; exact BA.out.lt
    have o_C_P : c_ < p_ := by rw [ep_]; exact BC.out.lt
    have o_J_P : j_ < p_ := by rw [ep_]; exact BJ.out.lt
    have o_R_P : r_ < p_ := by rw [ep_]; exact BR.out.lt
    have o_K_P : k_ < p_ := by rw [ep_]; exact BK.out.lt
    have o_S_P : s_ < p_ := by rw [ep_]; exact BS.out.lt
    have o_P_U : p_ < u_ := by omega
    have g_P : w.heap.size ≤ p_ := by rw [ep_]; exact hz_y27
    have BI := Lib.hid (BI.out.stays hbx)
    have BH := Lib.hid (BH.out.stays hbx)
    have BA := Lib.hid (BA.out.stays hbx)
    have BC := Lib.hid (BC.out.stays hbx)
    have BJ := Lib.hid (BJ.out.stays hbx)
    have BR := Lib.hid (BR.out.stays hbx)
    have BK := Lib.hid (BK.out.stays hbx)
    have BS := Lib.hid (BS.out.stays hbx)
    have BP := Lib.hid (show Blk x29 p_ 61 #[.bool false, .bool false, .int .u64 0, .int .i64 0, .int .i64 0, .int .i64 0, .int .u64 0, .int .u64 0] by rw [ex29, ep_]; exact blk_new2_0 _ _ _ _ _ )
    have BU := Lib.hid (show Blk x29 u_ 71 #[.int .i64 0, .int .i64 0, .int .u64 0, .int .u64 0, .bool false] by rw [ex29, eu_]; exact blk_new2_1 _ _ _ _ _ )
    have R30 := Lib.hid (R28.out.trans (hbx.mono hz_y27))
    have hz_x29 := R30.out.size
    clear hbx ex29 ep_ eu_ R28 hz_y27
    go_wp2_with fail
    refine (ilKnown _).mono ?_
    rintro e y31 ⟨rfl, hb⟩
    have hbx : Below x29.heap.size x29 y31 := below_via (by go_grown) hb (by first | (simp; done) | (simp; omega))
    have BI := Lib.hid (BI.out.stays hbx)
    have BH := Lib.hid (BH.out.stays hbx)
    have BA := Lib.hid (BA.out.stays hbx)
    have BC := Lib.hid (BC.out.stays hbx)
    have BJ := Lib.hid (BJ.out.stays hbx)
    have BR := Lib.hid (BR.out.stays hbx)
    have BK := Lib.hid (BK.out.stays hbx)
    have BS := Lib.hid (BS.out.stays hbx)
    have BP := Lib.hid (BP.out.stays hbx)
    have BU := Lib.hid (BU.out.stays hbx)
    have R32 := Lib.hid (R30.out.trans (hbx.mono hz_x29))
    have hz_y31 := R32.out.size
    clear hb hbx  R30 hz_x29
    have kH_12 : y31.cell? ⟨h_, 12, none⟩ = some (.int .u64 t0) := BH.out.cell 12
    go_wp2
    go_ret
    exact ⟨rfl, R32.out⟩
  · have hgd : ((g : Int) == (t0 : Int)) = false := by simp; omega
    have HG := Lib.hid hg
    clear hg
    go_wp2_with fail
    refine (int_any _ _ _ _ 9 (by decide) (by decide) _ T.out).mono ?_
    rintro e y5 ⟨k_, rfl, ht, ho⟩
    obtain ⟨m2, hm2⟩ : ∃ m2 : Nat, tapeAt l _ % 9 = (m2 : Int) := Int.eq_ofNat_of_zero_le (Int.emod_nonneg _ (by decide))
    have bm2 : m2 < 9 := by omega
    rw [hm2]
    clear hm2
    have R6 := Lib.hid (R4.out.trans ((Below.refl _ y3).grown ho hz_y3 (fun k hk => by simp at hk; subst hk; exact T.out.ge)))
    have hz_y5 := R6.out.size
    have T := Lib.hid ht
    clear ht ho R4 hz_y3
    go_wp2_with fail
    refine (ilAsk_fresh false 0 0 0 0 0 0 t0 m2 (by omega) (by omega) ht0 _).mono ?_
    rintro e y7 ⟨rfl, hb⟩
    have hbx : Below y5.heap.size y5 y7 := below_via (by go_grown) hb (by first | (simp; done) | (simp; omega))
    have R8 := Lib.hid (R6.out.trans (hbx.mono hz_y5))
    have hz_y7 := R8.out.size
    clear hb hbx  R6 hz_y5
    clear e0 wt0
    go_upto_region 3 with fail
    obtain ⟨x9, i_, h_, ex9, ei_, eh_⟩ : ∃ x9 i_ h_, x9 = (y7.alloc (.cells #[.bool true, .bool false, .int .u64 t0, .int .i64 m2, .int .i64 0, .int .i64 0, .int .u64 0, .int .u64 0] 61)).alloc (.cells #[.int .i64 0, .int .i64 4, .int .i64 3, .int .i64 0, .int .i64 6, .int .i64 0, .int .u32 0, .int .u32 0, .int .u32 0, .int .u64 0, .int .u64 0, .int .u64 0, .int .u64 t0] 25) ∧ i_ = y7.heap.size ∧ h_ = y7.heap.size + 1 := ⟨_, _, _, rfl, rfl, rfl⟩
    rw [← ex9, ← eh_, ← ei_]
    have hbx : Below y7.heap.size y7 x9 := by rw [ex9]; exact below_alloc2 _ _ _ 
    have o_I_H : i_ < h_ := by omega
    have g_I : w.heap.size ≤ i_ := by rw [ei_]; exact hz_y7
    have BI := Lib.hid (show Blk x9 i_ 61 #[.bool true, .bool false, .int .u64 t0, .int .i64 m2, .int .i64 0, .int .i64 0, .int .u64 0, .int .u64 0] by rw [ex9, ei_]; exact blk_new2_0 _ _ _ _ _ )
    have BH := Lib.hid (show Blk x9 h_ 25 #[.int .i64 0, .int .i64 4, .int .i64 3, .int .i64 0, .int .i64 6, .int .i64 0, .int .u32 0, .int .u32 0, .int .u32 0, .int .u64 0, .int .u64 0, .int .u64 0, .int .u64 t0] by rw [ex9, eh_]; exact blk_new2_1 _ _ _ _ _ )
    have R10 := Lib.hid (R8.out.trans (hbx.mono hz_y7))
    have hz_x9 := R10.out.size
    clear hbx ex9 ei_ eh_ R8 hz_y7
    have kH_0 : x9.cell? ⟨h_, 0, none⟩ = some (.int .i64 0) := BH.out.cell 0
    have kH_1 : x9.cell? ⟨h_, 1, none⟩ = some (.int .i64 4) := BH.out.cell 1
    have kH_2 : x9.cell? ⟨h_, 2, none⟩ = some (.int .i64 3) := BH.out.cell 2
    have kH_3 : x9.cell? ⟨h_, 3, none⟩ = some (.int .i64 0) := BH.out.cell 3
    have kH_4 : x9.cell? ⟨h_, 4, none⟩ = some (.int .i64 6) := BH.out.cell 4
    have kH_5 : x9.cell? ⟨h_, 5, none⟩ = some (.int .i64 0) := BH.out.cell 5
    have kH_6 : x9.cell? ⟨h_, 6, none⟩ = some (.int .u32 0) := BH.out.cell 6
    have kH_7 : x9.cell? ⟨h_, 7, none⟩ = some (.int .u32 0) := BH.out.cell 7
    have kH_8 : x9.cell? ⟨h_, 8, none⟩ = some (.int .u32 0) := BH.out.cell 8
    have kH_9 : x9.cell? ⟨h_, 9, none⟩ = some (.int .u64 0) := BH.out.cell 9
    have kH_10 : x9.cell? ⟨h_, 10, none⟩ = some (.int .u64 0) := BH.out.cell 10
    have kH_11 : x9.cell? ⟨h_, 11, none⟩ = some (.int .u64 0) := BH.out.cell 11
    have kH_12 : x9.cell? ⟨h_, 12, none⟩ = some (.int .u64 t0) := BH.out.cell 12
    go_wp2_with fail
    refine (serve_zero_lt none 0 0 [] 0 4 3 0 6 0 0 0 0 0 0 0 t0 1 50 60 _ (Echs.nil _) (by decide) rfl (by decide) (by decide) (by decide) (by decide) rfl).mono ?_
    rintro e y11 ⟨A1, c1, rfl, hm, hf, hb⟩
    clear kH_0 kH_1 kH_2 kH_3 kH_4 kH_5 kH_6 kH_7 kH_8 kH_9 kH_10 kH_11 kH_12
    have hbx : Below x9.heap.size x9 y11 := below_via (by go_grown) hb (by first | (simp; done) | (simp; omega))
    have BI := Lib.hid (BI.out.stays hbx)
    have BH := Lib.hid (BH.out.stays hbx)
    have R12 := Lib.hid (R10.out.trans (hbx.mono hz_x9))
    have hz_y11 := R12.out.size
    clear hb hbx  R10 hz_x9
    clear hf hm
    go_upto_region 4 with fail
    obtain ⟨x13, a_, ex13, ea_⟩ : ∃ x13 a_, x13 = y11.alloc (.cells #[.int .i64 0, .int .i64 4, .int .i64 4, .int .i64 1, .int .i64 6, .int .i64 (-20), .int .u32 0, .int .u32 0, .int .u32 0, .int .u64 0, .int .u64 t0, .int .u64 50, .int .u64 60] 25) ∧ a_ = y11.heap.size := ⟨_, _, rfl, rfl⟩
    rw [← ex13, ← ea_]
    have hbx : Below y11.heap.size y11 x13 := by rw [ex13]; exact below_alloc1 _ _ 
    have o_I_A : i_ < a_ := by rw [ea_]; exact BI.out.lt
    have o_H_A : h_ < a_ := by rw [ea_]; exact BH.out.lt
    have g_A : w.heap.size ≤ a_ := by rw [ea_]; exact hz_y11
    have BI := Lib.hid (BI.out.stays hbx)
    have BH := Lib.hid (BH.out.stays hbx)
    have BA := Lib.hid (show Blk x13 a_ 25 #[.int .i64 0, .int .i64 4, .int .i64 4, .int .i64 1, .int .i64 6, .int .i64 (-20), .int .u32 0, .int .u32 0, .int .u32 0, .int .u64 0, .int .u64 t0, .int .u64 50, .int .u64 60] by rw [ex13, ea_]; exact blk_new1_0 _ _ _ )
    have R14 := Lib.hid (R12.out.trans (hbx.mono hz_y11))
    have hz_x13 := R14.out.size
    clear hbx ex13 ea_ R12 hz_y11
    have kA_0 : x13.cell? ⟨a_, 0, none⟩ = some (.int .i64 0) := BA.out.cell 0
    have kA_1 : x13.cell? ⟨a_, 1, none⟩ = some (.int .i64 4) := BA.out.cell 1
    have kA_2 : x13.cell? ⟨a_, 2, none⟩ = some (.int .i64 4) := BA.out.cell 2
    have kA_3 : x13.cell? ⟨a_, 3, none⟩ = some (.int .i64 1) := BA.out.cell 3
    have kA_4 : x13.cell? ⟨a_, 4, none⟩ = some (.int .i64 6) := BA.out.cell 4
    have kA_5 : x13.cell? ⟨a_, 5, none⟩ = some (.int .i64 (-20)) := BA.out.cell 5
    have kA_6 : x13.cell? ⟨a_, 6, none⟩ = some (.int .u32 0) := BA.out.cell 6
    have kA_7 : x13.cell? ⟨a_, 7, none⟩ = some (.int .u32 0) := BA.out.cell 7
    have kA_8 : x13.cell? ⟨a_, 8, none⟩ = some (.int .u32 0) := BA.out.cell 8
    have kA_9 : x13.cell? ⟨a_, 9, none⟩ = some (.int .u64 0) := BA.out.cell 9
    have kA_10 : x13.cell? ⟨a_, 10, none⟩ = some (.int .u64 t0) := BA.out.cell 10
    have kA_11 : x13.cell? ⟨a_, 11, none⟩ = some (.int .u64 50) := BA.out.cell 11
    have kA_12 : x13.cell? ⟨a_, 12, none⟩ = some (.int .u64 60) := BA.out.cell 12
    go_upto_region 5 with fail
    clear kA_0 kA_1 kA_2 kA_3 kA_4 kA_5 kA_6 kA_7 kA_8 kA_9 kA_10 kA_11 kA_12
    obtain ⟨x15, c_, ex15, ec_⟩ : ∃ x15 c_, x15 = x13.alloc (.cells #[.int .i64 0, .int .i64 4, .int .i64 4, .int .i64 1, .int .i64 6, .int .i64 (-20), .int .u32 0, .int .u32 0, .int .u32 0, .int .u64 0, .int .u64 t0, .int .u64 50, .int .u64 60] 25) ∧ c_ = x13.heap.size := ⟨_, _, rfl, rfl⟩
    rw [← ex15, ← ec_]
    have hbx : Below x13.heap.size x13 x15 := by rw [ex15]; exact below_alloc1 _ _ 
    have o_I_C : i_ < c_ := by rw [ec_]; exact BI.out.lt
    have o_H_C : h_ < c_ := by rw [ec_]; exact BH.out.lt
    have o_A_C : a_ < c_ := by rw [ec_]; exact BA.out.lt
    have g_C : w.heap.size ≤ c_ := by rw [ec_]; exact hz_x13
    have BI := Lib.hid (BI.out.stays hbx)
    have BH := Lib.hid (BH.out.stays hbx)
    have BA := Lib.hid (BA.out.stays hbx)
    have BC := Lib.hid (show Blk x15 c_ 25 #[.int .i64 0, .int .i64 4, .int .i64 4, .int .i64 1, .int .i64 6, .int .i64 (-20), .int .u32 0, .int .u32 0, .int .u32 0, .int .u64 0, .int .u64 t0, .int .u64 50, .int .u64 60] by rw [ex15, ec_]; exact blk_new1_0 _ _ _ )
    have R16 := Lib.hid (R14.out.trans (hbx.mono hz_x13))
    have hz_x15 := R16.out.size
    clear hbx ex15 ec_ R14 hz_x13
    have kC_10 : x15.cell? ⟨c_, 10, none⟩ = some (.int .u64 t0) := BC.out.cell 10
    have fC_10 := BC.out.frozen 10
    go_upto_region 6 with fail
    clear kC_10 fC_10
    obtain ⟨x17, ex17⟩ : ∃ x17, x17 = x15.setCell ⟨c_, 10, none⟩ (.int .u64 g) := ⟨_, rfl⟩
    rw [← ex17]
    have BI := Lib.hid (show Blk x17 i_ 61 #[.bool true, .bool false, .int .u64 t0, .int .i64 m2, .int .i64 0, .int .i64 0, .int .u64 0, .int .u64 0] from by rw [ex17]; exact (BI.out.far (p := ⟨c_, 10, none⟩) (by simp only []; omega) _))
    have BH := Lib.hid (show Blk x17 h_ 25 #[.int .i64 0, .int .i64 4, .int .i64 3, .int .i64 0, .int .i64 6, .int .i64 0, .int .u32 0, .int .u32 0, .int .u32 0, .int .u64 0, .int .u64 0, .int .u64 0, .int .u64 t0] from by rw [ex17]; exact (BH.out.far (p := ⟨c_, 10, none⟩) (by simp only []; omega) _))
    have BA := Lib.hid (show Blk x17 a_ 25 #[.int .i64 0, .int .i64 4, .int .i64 4, .int .i64 1, .int .i64 6, .int .i64 (-20), .int .u32 0, .int .u32 0, .int .u32 0, .int .u64 0, .int .u64 t0, .int .u64 50, .int .u64 60] from by rw [ex17]; exact (BA.out.far (p := ⟨c_, 10, none⟩) (by simp only []; omega) _))
    have BC := Lib.hid (show Blk x17 c_ 25 #[.int .i64 0, .int .i64 4, .int .i64 4, .int .i64 1, .int .i64 6, .int .i64 (-20), .int .u32 0, .int .u32 0, .int .u32 0, .int .u64 0, .int .u64 g, .int .u64 50, .int .u64 60] from by rw [ex17]; exact (BC.out.put 10 _))
    have R18 := Lib.hid (show Below w.heap.size w x17 from by rw [ex17]; exact (R16.out.setCell (p := ⟨c_, 10, none⟩) (by simp only []; omega) _))
    have hz_x17 := R18.out.size
    clear R16 hz_x15
    clear ex17
    have kI_0 : x17.cell? ⟨i_, 0, none⟩ = some (.bool true) := BI.out.cell 0
    have kI_1 : x17.cell? ⟨i_, 1, none⟩ = some (.bool false) := BI.out.cell 1
    have kI_2 : x17.cell? ⟨i_, 2, none⟩ = some (.int .u64 t0) := BI.out.cell 2
    have kI_3 : x17.cell? ⟨i_, 3, none⟩ = some (.int .i64 m2) := BI.out.cell 3
    have kI_4 : x17.cell? ⟨i_, 4, none⟩ = some (.int .i64 0) := BI.out.cell 4
    have kI_5 : x17.cell? ⟨i_, 5, none⟩ = some (.int .i64 0) := BI.out.cell 5
    have kI_6 : x17.cell? ⟨i_, 6, none⟩ = some (.int .u64 0) := BI.out.cell 6
    have kI_7 : x17.cell? ⟨i_, 7, none⟩ = some (.int .u64 0) := BI.out.cell 7
    have kC_0 : x17.cell? ⟨c_, 0, none⟩ = some (.int .i64 0) := BC.out.cell 0
    have kC_1 : x17.cell? ⟨c_, 1, none⟩ = some (.int .i64 4) := BC.out.cell 1
    have kC_2 : x17.cell? ⟨c_, 2, none⟩ = some (.int .i64 4) := BC.out.cell 2
    have kC_3 : x17.cell? ⟨c_, 3, none⟩ = some (.int .i64 1) := BC.out.cell 3
    have kC_4 : x17.cell? ⟨c_, 4, none⟩ = some (.int .i64 6) := BC.out.cell 4
    have kC_5 : x17.cell? ⟨c_, 5, none⟩ = some (.int .i64 (-20)) := BC.out.cell 5
    have kC_6 : x17.cell? ⟨c_, 6, none⟩ = some (.int .u32 0) := BC.out.cell 6
    have kC_7 : x17.cell? ⟨c_, 7, none⟩ = some (.int .u32 0) := BC.out.cell 7
    have kC_8 : x17.cell? ⟨c_, 8, none⟩ = some (.int .u32 0) := BC.out.cell 8
    have kC_9 : x17.cell? ⟨c_, 9, none⟩ = some (.int .u64 0) := BC.out.cell 9
    have kC_10 : x17.cell? ⟨c_, 10, none⟩ = some (.int .u64 g) := BC.out.cell 10
    have kC_11 : x17.cell? ⟨c_, 11, none⟩ = some (.int .u64 50) := BC.out.cell 11
    have kC_12 : x17.cell? ⟨c_, 12, none⟩ = some (.int .u64 60) := BC.out.cell 12
    go_wp2_with fail
    refine (ilTake_match t0 m2 0 0 0 0 0 4 4 1 6 (-20) 0 0 0 0 g 50 60 100 (by decide) (by decide) (by omega) rfl HG.out _).mono ?_
    rintro e y19 ⟨rfl, hb⟩
    clear kI_0 kI_1 kI_2 kI_3 kI_4 kI_5 kI_6 kI_7 kC_0 kC_1 kC_2 kC_3 kC_4 kC_5 kC_6 kC_7 kC_8 kC_9 kC_10 kC_11 kC_12
    have hbx : Below x17.heap.size x17 y19 := below_via (by go_grown) hb (by first | (simp; done) | (simp; omega))
    have BI := Lib.hid (BI.out.stays hbx)
    have BH := Lib.hid (BH.out.stays hbx)
    have BA := Lib.hid (BA.out.stays hbx)
    have BC := Lib.hid (BC.out.stays hbx)
    have R20 := Lib.hid (R18.out.trans (hbx.mono hz_x17))
    have hz_y19 := R20.out.size
    clear hb hbx  R18 hz_x17
    go_upto_region 7 with fail
    obtain ⟨x21, j_, r_, ex21, ej_, er_⟩ : ∃ x21 j_ r_, x21 = (y19.alloc (.cells #[.bool false, .bool false, .int .u64 0, .int .i64 0, .int .i64 0, .int .i64 0, .int .u64 0, .int .u64 0] 61)).alloc (.cells #[.int .i64 0, .int .i64 0, .int .u64 0, .int .u64 0, .bool false] 71) ∧ j_ = y19.heap.size ∧ r_ = y19.heap.size + 1 := ⟨_, _, _, rfl, rfl, rfl⟩
    rw [← ex21, ← er_, ← ej_]
    have hbx : Below y19.heap.size y19 x21 := by rw [ex21]; exact below_alloc2 _ _ _ 
    have o_I_J : i_ < j_ := by rw [ej_]; exact BI.out.lt
    have o_H_J : h_ < j_ := by rw [ej_]; exact BH.out.lt
    have o_A_J : a_ < j_ := by rw [ej_]; exact BA.out.lt
    have o_C_J : c_ < j_ := by rw [ej_]; exact BC.out.lt
    have o_J_R : j_ < r_ := by omega
    have g_J : w.heap.size ≤ j_ := by rw [ej_]; exact hz_y19
    have BI := Lib.hid (BI.out.stays hbx)
    have BH := Lib.hid (BH.out.stays hbx)
    have BA := Lib.hid (BA.out.stays hbx)
    have BC := Lib.hid (BC.out.stays hbx)
    have BJ := Lib.hid (show Blk x21 j_ 61 #[.bool false, .bool false, .int .u64 0, .int .i64 0, .int .i64 0, .int .i64 0, .int .u64 0, .int .u64 0] by rw [ex21, ej_]; exact blk_new2_0 _ _ _ _ _ )
    have BR := Lib.hid (show Blk x21 r_ 71 #[.int .i64 0, .int .i64 0, .int .u64 0, .int .u64 0, .bool false] by rw [ex21, er_]; exact blk_new2_1 _ _ _ _ _ )
    have R22 := Lib.hid (R20.out.trans (hbx.mono hz_y19))
    have hz_x21 := R22.out.size
    clear hbx ex21 ej_ er_ R20 hz_y19
    have kI_0 : x21.cell? ⟨i_, 0, none⟩ = some (.bool true) := BI.out.cell 0
    have kI_1 : x21.cell? ⟨i_, 1, none⟩ = some (.bool false) := BI.out.cell 1
    have kI_2 : x21.cell? ⟨i_, 2, none⟩ = some (.int .u64 t0) := BI.out.cell 2
    have kI_3 : x21.cell? ⟨i_, 3, none⟩ = some (.int .i64 m2) := BI.out.cell 3
    have kI_4 : x21.cell? ⟨i_, 4, none⟩ = some (.int .i64 0) := BI.out.cell 4
    have kI_5 : x21.cell? ⟨i_, 5, none⟩ = some (.int .i64 0) := BI.out.cell 5
    have kI_6 : x21.cell? ⟨i_, 6, none⟩ = some (.int .u64 0) := BI.out.cell 6
    have kI_7 : x21.cell? ⟨i_, 7, none⟩ = some (.int .u64 0) := BI.out.cell 7
    have kA_0 : x21.cell? ⟨a_, 0, none⟩ = some (.int .i64 0) := BA.out.cell 0
    have kA_1 : x21.cell? ⟨a_, 1, none⟩ = some (.int .i64 4) := BA.out.cell 1
    have kA_2 : x21.cell? ⟨a_, 2, none⟩ = some (.int .i64 4) := BA.out.cell 2
    have kA_3 : x21.cell? ⟨a_, 3, none⟩ = some (.int .i64 1) := BA.out.cell 3
    have kA_4 : x21.cell? ⟨a_, 4, none⟩ = some (.int .i64 6) := BA.out.cell 4
    have kA_5 : x21.cell? ⟨a_, 5, none⟩ = some (.int .i64 (-20)) := BA.out.cell 5
    have kA_6 : x21.cell? ⟨a_, 6, none⟩ = some (.int .u32 0) := BA.out.cell 6
    have kA_7 : x21.cell? ⟨a_, 7, none⟩ = some (.int .u32 0) := BA.out.cell 7
    have kA_8 : x21.cell? ⟨a_, 8, none⟩ = some (.int .u32 0) := BA.out.cell 8
    have kA_9 : x21.cell? ⟨a_, 9, none⟩ = some (.int .u64 0) := BA.out.cell 9
    have kA_10 : x21.cell? ⟨a_, 10, none⟩ = some (.int .u64 t0) := BA.out.cell 10
    have kA_11 : x21.cell? ⟨a_, 11, none⟩ = some (.int .u64 50) := BA.out.cell 11
    have kA_12 : x21.cell? ⟨a_, 12, none⟩ = some (.int .u64 60) := BA.out.cell 12
    go_wp2_with fail
    refine (ilTake_basic false t0 m2 0 0 0 0 0 4 4 1 6 (-20) 0 0 0 0 t0 50 60 100 (by decide) (by decide) (by omega) rfl rfl _).mono ?_
    rintro e y23 ⟨rfl, hb⟩
    clear kI_0 kI_1 kI_2 kI_3 kI_4 kI_5 kI_6 kI_7 kA_0 kA_1 kA_2 kA_3 kA_4 kA_5 kA_6 kA_7 kA_8 kA_9 kA_10 kA_11 kA_12
    have hbx : Below x21.heap.size x21 y23 := below_via (by go_grown) hb (by first | (simp; done) | (simp; omega))
    have BI := Lib.hid (BI.out.stays hbx)
    have BH := Lib.hid (BH.out.stays hbx)
    have BA := Lib.hid (BA.out.stays hbx)
    have BC := Lib.hid (BC.out.stays hbx)
    have BJ := Lib.hid (BJ.out.stays hbx)
    have BR := Lib.hid (BR.out.stays hbx)
    have R24 := Lib.hid (R22.out.trans (hbx.mono hz_x21))
    have hz_y23 := R24.out.size
    clear hb hbx  R22 hz_x21
    go_upto_region 8 with fail
    obtain ⟨x25, k_, s_, ex25, ek_, es_⟩ : ∃ x25 k_ s_, x25 = (y23.alloc (.cells #[.bool false, .bool true, .int .u64 0, .int .i64 0, .int .i64 m2, .int .i64 100, .int .u64 50, .int .u64 t0] 61)).alloc (.cells #[.int .i64 m2, .int .i64 100, .int .u64 50, .int .u64 60, .bool false] 71) ∧ k_ = y23.heap.size ∧ s_ = y23.heap.size + 1 := ⟨_, _, _, rfl, rfl, rfl⟩
    rw [← ex25, ← es_, ← ek_]
    have hbx : Below y23.heap.size y23 x25 := by rw [ex25]; exact below_alloc2 _ _ _ 
    have o_I_K : i_ < k_ := by rw [ek_]; exact BI.out.lt
    have o_H_K : h_ < k_ := by rw [ek_]; exact BH.out.lt
    have o_A_K : a_ < k_ := by rw [ek_]; exact BA.out.lt
    have o_C_K : c_ < k_ := by rw [ek_]; exact BC.out.lt
    have o_J_K : j_ < k_ := by rw [ek_]; exact BJ.out.lt
    have o_R_K : r_ < k_ := by rw [ek_]; exact BR.out.lt
    have o_K_S : k_ < s_ := by omega
    have g_K : w.heap.size ≤ k_ := by rw [ek_]; exact hz_y23
    have BI := Lib.hid (BI.out.stays hbx)
    have BH := Lib.hid (BH.out.stays hbx)
    have BA := Lib.hid (BA.out.stays hbx)
    have BC := Lib.hid (BC.out.stays hbx)
    have BJ := Lib.hid (BJ.out.stays hbx)
    have BR := Lib.hid (BR.out.stays hbx)
    have BK := Lib.hid (show Blk x25 k_ 61 #[.bool false, .bool true, .int .u64 0, .int .i64 0, .int .i64 m2, .int .i64 100, .int .u64 50, .int .u64 t0] by rw [ex25, ek_]; exact blk_new2_0 _ _ _ _ _ )
    have BS := Lib.hid (show Blk x25 s_ 71 #[.int .i64 m2, .int .i64 100, .int .u64 50, .int .u64 60, .bool false] by rw [ex25, es_]; exact blk_new2_1 _ _ _ _ _ )
    have R26 := Lib.hid (R24.out.trans (hbx.mono hz_y23))
    have hz_x25 := R26.out.size
    clear hbx ex25 ek_ es_ R24 hz_y23
    have kK_0 : x25.cell? ⟨k_, 0, none⟩ = some (.bool false) := BK.out.cell 0
    have kK_1 : x25.cell? ⟨k_, 1, none⟩ = some (.bool true) := BK.out.cell 1
    have kK_2 : x25.cell? ⟨k_, 2, none⟩ = some (.int .u64 0) := BK.out.cell 2
    have kK_3 : x25.cell? ⟨k_, 3, none⟩ = some (.int .i64 0) := BK.out.cell 3
    have kK_4 : x25.cell? ⟨k_, 4, none⟩ = some (.int .i64 m2) := BK.out.cell 4
    have kK_5 : x25.cell? ⟨k_, 5, none⟩ = some (.int .i64 100) := BK.out.cell 5
    have kK_6 : x25.cell? ⟨k_, 6, none⟩ = some (.int .u64 50) := BK.out.cell 6
    have kK_7 : x25.cell? ⟨k_, 7, none⟩ = some (.int .u64 t0) := BK.out.cell 7
    have kA_0 : x25.cell? ⟨a_, 0, none⟩ = some (.int .i64 0) := BA.out.cell 0
    have kA_1 : x25.cell? ⟨a_, 1, none⟩ = some (.int .i64 4) := BA.out.cell 1
    have kA_2 : x25.cell? ⟨a_, 2, none⟩ = some (.int .i64 4) := BA.out.cell 2
    have kA_3 : x25.cell? ⟨a_, 3, none⟩ = some (.int .i64 1) := BA.out.cell 3
    have kA_4 : x25.cell? ⟨a_, 4, none⟩ = some (.int .i64 6) := BA.out.cell 4
    have kA_5 : x25.cell? ⟨a_, 5, none⟩ = some (.int .i64 (-20)) := BA.out.cell 5
    have kA_6 : x25.cell? ⟨a_, 6, none⟩ = some (.int .u32 0) := BA.out.cell 6
    have kA_7 : x25.cell? ⟨a_, 7, none⟩ = some (.int .u32 0) := BA.out.cell 7
    have kA_8 : x25.cell? ⟨a_, 8, none⟩ = some (.int .u32 0) := BA.out.cell 8
    have kA_9 : x25.cell? ⟨a_, 9, none⟩ = some (.int .u64 0) := BA.out.cell 9
    have kA_10 : x25.cell? ⟨a_, 10, none⟩ = some (.int .u64 t0) := BA.out.cell 10
    have kA_11 : x25.cell? ⟨a_, 11, none⟩ = some (.int .u64 50) := BA.out.cell 11
    have kA_12 : x25.cell? ⟨a_, 12, none⟩ = some (.int .u64 60) := BA.out.cell 12
    go_wp2_with fail
    refine (ilTake_state true 0 0 m2 100 50 t0 0 4 4 1 6 (-20) 0 0 0 0 t0 50 60 100 _).mono ?_
    rintro e y27 ⟨rfl, hb⟩
    clear kK_0 kK_1 kK_2 kK_3 kK_4 kK_5 kK_6 kK_7 kA_0 kA_1 kA_2 kA_3 kA_4 kA_5 kA_6 kA_7 kA_8 kA_9 kA_10 kA_11 kA_12
    have hbx : Below x25.heap.size x25 y27 := below_via (by go_grown) hb (by first | (simp; done) | (simp; omega))
    have BI := Lib.hid (BI.out.stays hbx)
    have BH := Lib.hid (BH.out.stays hbx)
    have BA := Lib.hid (BA.out.stays hbx)
    have BC := Lib.hid (BC.out.stays hbx)
    have BJ := Lib.hid (BJ.out.stays hbx)
    have BR := Lib.hid (BR.out.stays hbx)
    have BK := Lib.hid (BK.out.stays hbx)
    have BS := Lib.hid (BS.out.stays hbx)
    have R28 := Lib.hid (R26.out.trans (hbx.mono hz_x25))
    have hz_y27 := R28.out.size
    clear hb hbx  R26 hz_x25
    go_upto_region 9 with fail
    obtain ⟨x29, p_, u_, ex29, ep_, eu_⟩ : ∃ x29 p_ u_, x29 = (y27.alloc (.cells #[.bool false, .bool false, .int .u64 0, .int .i64 0, .int .i64 0, .int .i64 0, .int .u64 0, .int .u64 0] 61)).alloc (.cells #[.int .i64 0, .int .i64 0, .int .u64 0, .int .u64 0, .bool false] 71) ∧ p_ = y27.heap.size ∧ u_ = y27.heap.size + 1 := ⟨_, _, _, rfl, rfl, rfl⟩
    rw [← ex29, ← eu_, ← ep_]
    have hbx : Below y27.heap.size y27 x29 := by rw [ex29]; exact below_alloc2 _ _ _ 
    have o_I_P : i_ < p_ := by rw [ep_]; exact BI.out.lt
    have o_H_P : h_ < p_ := by rw [ep_]; exact BH.out.lt
    have o_A_P : a_ < p_ := by rw [ep_]; exact BA.out.lt
    have o_C_P : c_ < p_ := by rw [ep_]; exact BC.out.lt
    have o_J_P : j_ < p_ := by rw [ep_]; exact BJ.out.lt
    have o_R_P : r_ < p_ := by rw [ep_]; exact BR.out.lt
    have o_K_P : k_ < p_ := by rw [ep_]; exact BK.out.lt
    have o_S_P : s_ < p_ := by rw [ep_]; exact BS.out.lt
    have o_P_U : p_ < u_ := by omega
    have g_P : w.heap.size ≤ p_ := by rw [ep_]; exact hz_y27
    have BI := Lib.hid (BI.out.stays hbx)
    have BH := Lib.hid (BH.out.stays hbx)
    have BA := Lib.hid (BA.out.stays hbx)
    have BC := Lib.hid (BC.out.stays hbx)
    have BJ := Lib.hid (BJ.out.stays hbx)
    have BR := Lib.hid (BR.out.stays hbx)
    have BK := Lib.hid (BK.out.stays hbx)
    have BS := Lib.hid (BS.out.stays hbx)
    have BP := Lib.hid (show Blk x29 p_ 61 #[.bool false, .bool false, .int .u64 0, .int .i64 0, .int .i64 0, .int .i64 0, .int .u64 0, .int .u64 0] by rw [ex29, ep_]; exact blk_new2_0 _ _ _ _ _ )
    have BU := Lib.hid (show Blk x29 u_ 71 #[.int .i64 0, .int .i64 0, .int .u64 0, .int .u64 0, .bool false] by rw [ex29, eu_]; exact blk_new2_1 _ _ _ _ _ )
    have R30 := Lib.hid (R28.out.trans (hbx.mono hz_y27))
    have hz_x29 := R30.out.size
    clear hbx ex29 ep_ eu_ R28 hz_y27
    go_wp2_with fail
    refine (ilKnown _).mono ?_
    rintro e y31 ⟨rfl, hb⟩
    have hbx : Below x29.heap.size x29 y31 := below_via (by go_grown) hb (by first | (simp; done) | (simp; omega))
    have BI := Lib.hid (BI.out.stays hbx)
    have BH := Lib.hid (BH.out.stays hbx)
    have BA := Lib.hid (BA.out.stays hbx)
    have BC := Lib.hid (BC.out.stays hbx)
    have BJ := Lib.hid (BJ.out.stays hbx)
    have BR := Lib.hid (BR.out.stays hbx)
    have BK := Lib.hid (BK.out.stays hbx)
    have BS := Lib.hid (BS.out.stays hbx)
    have BP := Lib.hid (BP.out.stays hbx)
    have BU := Lib.hid (BU.out.stays hbx)
    have R32 := Lib.hid (R30.out.trans (hbx.mono hz_x29))
    have hz_y31 := R32.out.size
    clear hb hbx  R30 hz_x29
    have kH_12 : y31.cell? ⟨h_, 12, none⟩ = some (.int .u64 t0) := BH.out.cell 12
    go_wp2
    go_ret
    exact ⟨rfl, R32.out⟩
theorem interleaveRefuses_walk' (A : Option Addr) (n c : Nat) (l : List Int) (a1 : Int) (w1 : (Lit.int .u64 a1).wf = true) (w : World) (hv : Rd w 1 A n c (l.map (Value.int .i64))) :
    Calls Try.prog 9 #[.slice A n c, .int .u64 a1] w fun e w' => e = .returned (.bool true) ∧ Below w.heap.size w w' := by
  obtain ⟨x1, rfl⟩ := Int.eq_ofNat_of_zero_le (bounds_u64 w1).1
  exact interleaveRefuses_walk A n c l x1 w hv
end Go.Proofs.Ytnpfndlmbaafaaa
