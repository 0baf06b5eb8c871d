/- interleave.Take. -/
import Derived.Test.YtfkckokaclkjnaaIlBG
namespace Go.Proofs.Ytfkckokaclkjnaa
open Go.RowKit

set_option maxRecDepth 100000 in
set_option maxHeartbeats 4000000 in
theorem ilTake_basic (k : Bool) (tr : Nat) (asked sent got : Int) (re ma : Nat) (h0 h1 h2 h3 h4 h5 : Int) (h6 h7 h8 h9 h10 h11 h12 : Nat) (at_ : Int) (v1 : -1152921504606846976 ≤ at_) (v2 : at_ ≤ 1152921504606846976) (ha : asked ≤ at_) (hm : h2 = 4) (ho : h10 = tr) (w : World) :
    Calls Try.prog 9 #[.agg #[.bool true, .bool k, .int .u64 tr, .int .i64 asked, .int .i64 sent, .int .i64 got, .int .u64 re, .int .u64 ma], .agg #[.int .i64 h0, .int .i64 h1, .int .i64 h2, .int .i64 h3, .int .i64 h4, .int .i64 h5, .int .u32 h6, .int .u32 h7, .int .u32 h8, .int .u64 h9, .int .u64 h10, .int .u64 h11, .int .u64 h12], .int .i64 at_] w fun e w' =>
      e = .returned (.tuple #[.agg #[.bool false, .bool true, .int .u64 0, .int .i64 0, .int .i64 asked, .int .i64 at_, .int .u64 h11, .int .u64 tr], .agg #[.int .i64 asked, .int .i64 at_, .int .u64 h11, .int .u64 h12, .bool false], .int .i64 0]) ∧ Below w.heap.size w w' := by
  have hmd : ((h2 : Int) != 4) = false := by simpa using hm
  clear hm
  have ha2 : ¬ at_ < asked := by omega
  have ho2 : (h10 : Int) = (tr : Int) := by omega
  have hod : ((h10 : Int) == (tr : Int)) = true := by simpa using ho2
  clear ho ho2
  go_enter Try.func9, Try.ntmps9
  go_upto_region 1 with fail
  obtain ⟨x1, i_, h_, j_, k_, ex1, ei_, eh_, ej_, ek_⟩ : ∃ x1 i_ h_ j_ k_, x1 = (((w.alloc (.cells #[.bool true, .bool k, .int .u64 tr, .int .i64 asked, .int .i64 sent, .int .i64 got, .int .u64 re, .int .u64 ma] 27)).alloc (.cells #[.int .i64 h0, .int .i64 h1, .int .i64 h2, .int .i64 h3, .int .i64 h4, .int .i64 h5, .int .u32 h6, .int .u32 h7, .int .u32 h8, .int .u64 h9, .int .u64 h10, .int .u64 h11, .int .u64 h12] 35)).alloc (.cells #[.bool false, .bool false, .int .u64 0, .int .i64 0, .int .i64 0, .int .i64 0, .int .u64 0, .int .u64 0] 27)).alloc (.cells #[.int .i64 0, .int .i64 0, .int .u64 0, .int .u64 0, .bool false] 44) ∧ i_ = w.heap.size ∧ h_ = w.heap.size + 1 ∧ j_ = w.heap.size + 1 + 1 ∧ k_ = w.heap.size + 1 + 1 + 1 := ⟨_, _, _, _, _, rfl, rfl, rfl, rfl, rfl⟩
  rw [← ex1, ← ek_, ← ej_, ← eh_, ← ei_]
  have hbx : Below w.heap.size w x1 := by rw [ex1]; exact below_alloc4 _ _ _ _ _ 
  have o_I_H : i_ < h_ := by omega
  have o_H_J : h_ < j_ := by omega
  have o_J_K : j_ < k_ := by omega
  have g_I : w.heap.size ≤ i_ := by rw [ei_]; exact Nat.le_refl _
  have BI := Lib.hid (show Blk x1 i_ 27 #[.bool true, .bool k, .int .u64 tr, .int .i64 asked, .int .i64 sent, .int .i64 got, .int .u64 re, .int .u64 ma] by rw [ex1, ei_]; exact blk_new4_0 _ _ _ _ _ _ _ _ _ )
  have BH := Lib.hid (show Blk x1 h_ 35 #[.int .i64 h0, .int .i64 h1, .int .i64 h2, .int .i64 h3, .int .i64 h4, .int .i64 h5, .int .u32 h6, .int .u32 h7, .int .u32 h8, .int .u64 h9, .int .u64 h10, .int .u64 h11, .int .u64 h12] by rw [ex1, eh_]; exact blk_new4_1 _ _ _ _ _ _ _ _ _ )
  have BJ := Lib.hid (show Blk x1 j_ 27 #[.bool false, .bool false, .int .u64 0, .int .i64 0, .int .i64 0, .int .i64 0, .int .u64 0, .int .u64 0] by rw [ex1, ej_]; exact blk_new4_2 _ _ _ _ _ _ _ _ _ )
  have BK := Lib.hid (show Blk x1 k_ 44 #[.int .i64 0, .int .i64 0, .int .u64 0, .int .u64 0, .bool false] by rw [ex1, ek_]; exact blk_new4_3 _ _ _ _ _ _ _ _ _ )
  have R2 := Lib.hid hbx
  have hz_x1 := R2.out.size
  clear hbx ex1 ei_ eh_ ej_ ek_
  go_upto_region 3 with fail
  obtain ⟨x3, q_, ex3, eq_⟩ : ∃ x3 q_, x3 = x1.alloc (.cells #[.int .i64 0, .int .i64 0, .int .u64 0, .int .u64 0, .bool false] 44) ∧ q_ = x1.heap.size := ⟨_, _, rfl, rfl⟩
  rw [← ex3, ← eq_]
  have hbx : Below x1.heap.size x1 x3 := by rw [ex3]; exact below_alloc1 _ _ 
  have o_I_Q : i_ < q_ := by rw [eq_]; exact BI.out.lt
  have o_H_Q : h_ < q_ := by rw [eq_]; exact BH.out.lt
  have o_J_Q : j_ < q_ := by rw [eq_]; exact BJ.out.lt
  have o_K_Q : k_ < q_ := by rw [eq_]; exact BK.out.lt
  have g_Q : w.heap.size ≤ q_ := by rw [eq_]; exact hz_x1
  have BI := Lib.hid (BI.out.stays hbx)
  have BH := Lib.hid (BH.out.stays hbx)
  have BJ := Lib.hid (BJ.out.stays hbx)
  have BK := Lib.hid (BK.out.stays hbx)
  have BQ := Lib.hid (show Blk x3 q_ 44 #[.int .i64 0, .int .i64 0, .int .u64 0, .int .u64 0, .bool false] by rw [ex3, eq_]; exact blk_new1_0 _ _ _ )
  have R4 := Lib.hid (R2.out.trans (hbx.mono hz_x1))
  have hz_x3 := R4.out.size
  clear hbx ex3 eq_ R2 hz_x1
  have kI_0 : x3.cell? ⟨i_, 0, none⟩ = some (.bool true) := BI.out.cell 0
  go_wp2_with fail
  refine (ticksValid_yes _ v1 v2 _).mono ?_
  rintro e q_ ⟨rfl, rfl⟩
  have kI_1 : x3.cell? ⟨i_, 1, none⟩ = some (.bool k) := BI.out.cell 1
  have kI_2 : x3.cell? ⟨i_, 2, none⟩ = some (.int .u64 tr) := BI.out.cell 2
  have kI_3 : x3.cell? ⟨i_, 3, none⟩ = some (.int .i64 asked) := BI.out.cell 3
  have kI_4 : x3.cell? ⟨i_, 4, none⟩ = some (.int .i64 sent) := BI.out.cell 4
  have kI_5 : x3.cell? ⟨i_, 5, none⟩ = some (.int .i64 got) := BI.out.cell 5
  have kI_6 : x3.cell? ⟨i_, 6, none⟩ = some (.int .u64 re) := BI.out.cell 6
  have kI_7 : x3.cell? ⟨i_, 7, none⟩ = some (.int .u64 ma) := BI.out.cell 7
  have kH_2 : x3.cell? ⟨h_, 2, none⟩ = some (.int .i64 h2) := BH.out.cell 2
  have kH_10 : x3.cell? ⟨h_, 10, none⟩ = some (.int .u64 h10) := BH.out.cell 10
  have kH_11 : x3.cell? ⟨h_, 11, none⟩ = some (.int .u64 h11) := BH.out.cell 11
  have kH_12 : x3.cell? ⟨h_, 12, none⟩ = some (.int .u64 h12) := BH.out.cell 12
  have fQ_0 := BQ.out.frozen 0
  have fQ_1 := BQ.out.frozen 1
  have fQ_2 := BQ.out.frozen 2
  have fQ_3 := BQ.out.frozen 3
  have fQ_4 := BQ.out.frozen 4
  have kQ_0 : x3.cell? ⟨q_, 0, none⟩ = some (.int .i64 0) := BQ.out.cell 0
  have kQ_1 : x3.cell? ⟨q_, 1, none⟩ = some (.int .i64 0) := BQ.out.cell 1
  have kQ_2 : x3.cell? ⟨q_, 2, none⟩ = some (.int .u64 0) := BQ.out.cell 2
  have kQ_3 : x3.cell? ⟨q_, 3, none⟩ = some (.int .u64 0) := BQ.out.cell 3
  have kQ_4 : x3.cell? ⟨q_, 4, none⟩ = some (.bool false) := BQ.out.cell 4
  go_upto_region 15 with fail
  clear kI_0 kI_1 kI_2 kI_3 kI_4 kI_5 kI_6 kI_7 kH_2 kH_10 kH_11 kH_12 fQ_0 fQ_1 fQ_2 fQ_3 fQ_4 kQ_0 kQ_1 kQ_2 kQ_3 kQ_4
  obtain ⟨x5, ex5⟩ : ∃ x5, x5 = ((((x3.setCell ⟨q_, 0, none⟩ (.int .i64 asked)).setCell ⟨q_, 1, none⟩ (.int .i64 at_)).setCell ⟨q_, 2, none⟩ (.int .u64 h11)).setCell ⟨q_, 3, none⟩ (.int .u64 h12)).setCell ⟨q_, 4, none⟩ (.bool false) := ⟨_, rfl⟩
  rw [← ex5]
  have BI := Lib.hid (show Blk x5 i_ 27 #[.bool true, .bool k, .int .u64 tr, .int .i64 asked, .int .i64 sent, .int .i64 got, .int .u64 re, .int .u64 ma] from by rw [ex5]; exact (((((BI.out.far (p := ⟨q_, 0, none⟩) (by simp only []; omega) _).far (p := ⟨q_, 1, none⟩) (by simp only []; omega) _).far (p := ⟨q_, 2, none⟩) (by simp only []; omega) _).far (p := ⟨q_, 3, none⟩) (by simp only []; omega) _).far (p := ⟨q_, 4, none⟩) (by simp only []; omega) _))
  have BH := Lib.hid (show Blk x5 h_ 35 #[.int .i64 h0, .int .i64 h1, .int .i64 h2, .int .i64 h3, .int .i64 h4, .int .i64 h5, .int .u32 h6, .int .u32 h7, .int .u32 h8, .int .u64 h9, .int .u64 h10, .int .u64 h11, .int .u64 h12] from by rw [ex5]; exact (((((BH.out.far (p := ⟨q_, 0, none⟩) (by simp only []; omega) _).far (p := ⟨q_, 1, none⟩) (by simp only []; omega) _).far (p := ⟨q_, 2, none⟩) (by simp only []; omega) _).far (p := ⟨q_, 3, none⟩) (by simp only []; omega) _).far (p := ⟨q_, 4, none⟩) (by simp only []; omega) _))
  have BJ := Lib.hid (show Blk x5 j_ 27 #[.bool false, .bool false, .int .u64 0, .int .i64 0, .int .i64 0, .int .i64 0, .int .u64 0, .int .u64 0] from by rw [ex5]; exact (((((BJ.out.far (p := ⟨q_, 0, none⟩) (by simp only []; omega) _).far (p := ⟨q_, 1, none⟩) (by simp only []; omega) _).far (p := ⟨q_, 2, none⟩) (by simp only []; omega) _).far (p := ⟨q_, 3, none⟩) (by simp only []; omega) _).far (p := ⟨q_, 4, none⟩) (by simp only []; omega) _))
  have BK := Lib.hid (show Blk x5 k_ 44 #[.int .i64 0, .int .i64 0, .int .u64 0, .int .u64 0, .bool false] from by rw [ex5]; exact (((((BK.out.far (p := ⟨q_, 0, none⟩) (by simp only []; omega) _).far (p := ⟨q_, 1, none⟩) (by simp only []; omega) _).far (p := ⟨q_, 2, none⟩) (by simp only []; omega) _).far (p := ⟨q_, 3, none⟩) (by simp only []; omega) _).far (p := ⟨q_, 4, none⟩) (by simp only []; omega) _))
  have BQ := Lib.hid (show Blk x5 q_ 44 #[.int .i64 asked, .int .i64 at_, .int .u64 h11, .int .u64 h12, .bool false] from by rw [ex5]; exact (((((BQ.out.put 0 _).put 1 _).put 2 _).put 3 _).put 4 _))
  have R6 := Lib.hid (show Below w.heap.size w x5 from by rw [ex5]; exact (((((R4.out.setCell (p := ⟨q_, 0, none⟩) (by simp only []; omega) _).setCell (p := ⟨q_, 1, none⟩) (by simp only []; omega) _).setCell (p := ⟨q_, 2, none⟩) (by simp only []; omega) _).setCell (p := ⟨q_, 3, none⟩) (by simp only []; omega) _).setCell (p := ⟨q_, 4, none⟩) (by simp only []; omega) _))
  have hz_x5 := R6.out.size
  clear R4 hz_x3
  clear ex5
  have cI := BI.out.cell
  have cH := BH.out.cell
  have cJ := BJ.out.cell
  have cK := BK.out.cell
  have cQ := BQ.out.cell
  have zJ := BJ.out.frozen
  have zK := BK.out.frozen
  have n_Q_J : ¬ q_ = j_ := by omega
  have n_J_Q : ¬ j_ = q_ := by omega
  have n_Q_K : ¬ q_ = k_ := by omega
  have n_K_Q : ¬ k_ = q_ := by omega
  have n_J_K : ¬ j_ = k_ := by omega
  have n_K_J : ¬ k_ = j_ := by omega
  have n_I_J : ¬ i_ = j_ := by omega
  have n_J_I : ¬ j_ = i_ := by omega
  have n_H_J : ¬ h_ = j_ := by omega
  have n_J_H : ¬ j_ = h_ := by omega
  have n_I_K : ¬ i_ = k_ := by omega
  have n_K_I : ¬ k_ = i_ := by omega
  have n_H_K : ¬ h_ = k_ := by omega
  have n_K_H : ¬ k_ = h_ := by omega
  go_region
  clear cI cH cJ cK cQ zJ zK n_Q_J n_J_Q n_Q_K n_K_Q n_J_K n_K_J n_I_J n_J_I n_H_J n_J_H n_I_K n_K_I n_H_K n_K_H
  generalize hwd : World.drew (World.setCell _ ⟨k_, 4, none⟩ _) = wd
  have hwd2 : (stores (stores x5 j_ [.bool false, .bool true, .int .u64 0, .int .i64 0, .int .i64 asked, .int .i64 at_, .int .u64 h11, .int .u64 tr] 0) k_ [.int .i64 asked, .int .i64 at_, .int .u64 h11, .int .u64 h12, .bool false] 0).drew = wd := hwd
  have D1 : Blk wd j_ 27 #[.bool false, .bool true, .int .u64 0, .int .i64 0, .int .i64 asked, .int .i64 at_, .int .u64 h11, .int .u64 tr] := by rw [← hwd2]; exact BJ.out.two1 _ _ rfl (by omega)
  have D2 : Blk wd k_ 44 #[.int .i64 asked, .int .i64 at_, .int .u64 h11, .int .u64 h12, .bool false] := by rw [← hwd2]; exact BK.out.two2 _ _ rfl (by omega)
  have RD : Below w.heap.size w wd := by rw [← hwd2]; exact (Below.stores (by omega) _ _ _ (Below.stores (by omega) _ _ _ R6.out)).drew
  clear hwd2
  clear hwd
  have d1_0 : wd.cell? ⟨j_, 0, none⟩ = some (.bool false) := D1.cell 0
  have d1_1 : wd.cell? ⟨j_, 1, none⟩ = some (.bool true) := D1.cell 1
  have d1_2 : wd.cell? ⟨j_, 2, none⟩ = some (.int .u64 0) := D1.cell 2
  have d1_3 : wd.cell? ⟨j_, 3, none⟩ = some (.int .i64 0) := D1.cell 3
  have d1_4 : wd.cell? ⟨j_, 4, none⟩ = some (.int .i64 asked) := D1.cell 4
  have d1_5 : wd.cell? ⟨j_, 5, none⟩ = some (.int .i64 at_) := D1.cell 5
  have d1_6 : wd.cell? ⟨j_, 6, none⟩ = some (.int .u64 h11) := D1.cell 6
  have d1_7 : wd.cell? ⟨j_, 7, none⟩ = some (.int .u64 tr) := D1.cell 7
  have d2_0 : wd.cell? ⟨k_, 0, none⟩ = some (.int .i64 asked) := D2.cell 0
  have d2_1 : wd.cell? ⟨k_, 1, none⟩ = some (.int .i64 at_) := D2.cell 1
  have d2_2 : wd.cell? ⟨k_, 2, none⟩ = some (.int .u64 h11) := D2.cell 2
  have d2_3 : wd.cell? ⟨k_, 3, none⟩ = some (.int .u64 h12) := D2.cell 3
  have d2_4 : wd.cell? ⟨k_, 4, none⟩ = some (.bool false) := D2.cell 4
  go_wp2_with fail
  refine bodyPost_ret (v := .tuple #[.agg #[.bool false, .bool true, .int .u64 0, .int .i64 0, .int .i64 asked, .int .i64 at_, .int .u64 h11, .int .u64 tr], .agg #[.int .i64 asked, .int .i64 at_, .int .u64 h11, .int .u64 h12, .bool false], .int .i64 0]) (by simp [results, Try.results9, go_sem, *]) rfl ⟨rfl, RD⟩
set_option maxRecDepth 100000 in
set_option maxHeartbeats 4000000 in
theorem ilTake_inter (tr : Nat) (asked sent got : Int) (re ma : Nat) (h0 h1 h2 h3 h4 h5 : Int) (h6 h7 h8 h9 h10 h11 h12 : Nat) (at_ : Int) (v1 : -1152921504606846976 ≤ at_) (v2 : at_ ≤ 1152921504606846976) (ha : asked ≤ at_) (hm : h2 = 4) (ho : ¬ h10 = tr) (hk : h10 = ma) (w : World) :
    Calls Try.prog 9 #[.agg #[.bool true, .bool true, .int .u64 tr, .int .i64 asked, .int .i64 sent, .int .i64 got, .int .u64 re, .int .u64 ma], .agg #[.int .i64 h0, .int .i64 h1, .int .i64 h2, .int .i64 h3, .int .i64 h4, .int .i64 h5, .int .u32 h6, .int .u32 h7, .int .u32 h8, .int .u64 h9, .int .u64 h10, .int .u64 h11, .int .u64 h12], .int .i64 at_] w fun e w' =>
      e = .returned (.tuple #[.agg #[.bool false, .bool true, .int .u64 0, .int .i64 0, .int .i64 asked, .int .i64 at_, .int .u64 h11, .int .u64 tr], .agg #[.int .i64 sent, .int .i64 got, .int .u64 re, .int .u64 h12, .bool true], .int .i64 0]) ∧ Below w.heap.size w w' := by
  have hmd : ((h2 : Int) != 4) = false := by simpa using hm
  clear hm
  have ha2 : ¬ at_ < asked := by omega
  have ho2 : ¬ (h10 : Int) = (tr : Int) := by omega
  have hod : ((h10 : Int) == (tr : Int)) = false := by simpa using ho2
  have hk2 : (h10 : Int) = (ma : Int) := by omega
  have hkd : ((h10 : Int) == (ma : Int)) = true := by simpa using hk2
  clear hk hk2
  go_enter Try.func9, Try.ntmps9
  go_upto_region 1 with fail
  obtain ⟨x1, i_, h_, j_, k_, ex1, ei_, eh_, ej_, ek_⟩ : ∃ x1 i_ h_ j_ k_, x1 = (((w.alloc (.cells #[.bool true, .bool true, .int .u64 tr, .int .i64 asked, .int .i64 sent, .int .i64 got, .int .u64 re, .int .u64 ma] 27)).alloc (.cells #[.int .i64 h0, .int .i64 h1, .int .i64 h2, .int .i64 h3, .int .i64 h4, .int .i64 h5, .int .u32 h6, .int .u32 h7, .int .u32 h8, .int .u64 h9, .int .u64 h10, .int .u64 h11, .int .u64 h12] 35)).alloc (.cells #[.bool false, .bool false, .int .u64 0, .int .i64 0, .int .i64 0, .int .i64 0, .int .u64 0, .int .u64 0] 27)).alloc (.cells #[.int .i64 0, .int .i64 0, .int .u64 0, .int .u64 0, .bool false] 44) ∧ i_ = w.heap.size ∧ h_ = w.heap.size + 1 ∧ j_ = w.heap.size + 1 + 1 ∧ k_ = w.heap.size + 1 + 1 + 1 := ⟨_, _, _, _, _, rfl, rfl, rfl, rfl, rfl⟩
  rw [← ex1, ← ek_, ← ej_, ← eh_, ← ei_]
  have hbx : Below w.heap.size w x1 := by rw [ex1]; exact below_alloc4 _ _ _ _ _ 
  have o_I_H : i_ < h_ := by omega
  have o_H_J : h_ < j_ := by omega
  have o_J_K : j_ < k_ := by omega
  have g_I : w.heap.size ≤ i_ := by rw [ei_]; exact Nat.le_refl _
  have BI := Lib.hid (show Blk x1 i_ 27 #[.bool true, .bool true, .int .u64 tr, .int .i64 asked, .int .i64 sent, .int .i64 got, .int .u64 re, .int .u64 ma] by rw [ex1, ei_]; exact blk_new4_0 _ _ _ _ _ _ _ _ _ )
  have BH := Lib.hid (show Blk x1 h_ 35 #[.int .i64 h0, .int .i64 h1, .int .i64 h2, .int .i64 h3, .int .i64 h4, .int .i64 h5, .int .u32 h6, .int .u32 h7, .int .u32 h8, .int .u64 h9, .int .u64 h10, .int .u64 h11, .int .u64 h12] by rw [ex1, eh_]; exact blk_new4_1 _ _ _ _ _ _ _ _ _ )
  have BJ := Lib.hid (show Blk x1 j_ 27 #[.bool false, .bool false, .int .u64 0, .int .i64 0, .int .i64 0, .int .i64 0, .int .u64 0, .int .u64 0] by rw [ex1, ej_]; exact blk_new4_2 _ _ _ _ _ _ _ _ _ )
  have BK := Lib.hid (show Blk x1 k_ 44 #[.int .i64 0, .int .i64 0, .int .u64 0, .int .u64 0, .bool false] by rw [ex1, ek_]; exact blk_new4_3 _ _ _ _ _ _ _ _ _ )
  have R2 := Lib.hid hbx
  have hz_x1 := R2.out.size
  clear hbx ex1 ei_ eh_ ej_ ek_
  go_upto_region 3 with fail
  obtain ⟨x3, q_, ex3, eq_⟩ : ∃ x3 q_, x3 = x1.alloc (.cells #[.int .i64 0, .int .i64 0, .int .u64 0, .int .u64 0, .bool false] 44) ∧ q_ = x1.heap.size := ⟨_, _, rfl, rfl⟩
  rw [← ex3, ← eq_]
  have hbx : Below x1.heap.size x1 x3 := by rw [ex3]; exact below_alloc1 _ _ 
  have o_I_Q : i_ < q_ := by rw [eq_]; exact BI.out.lt
  have o_H_Q : h_ < q_ := by rw [eq_]; exact BH.out.lt
  have o_J_Q : j_ < q_ := by rw [eq_]; exact BJ.out.lt
  have o_K_Q : k_ < q_ := by rw [eq_]; exact BK.out.lt
  have g_Q : w.heap.size ≤ q_ := by rw [eq_]; exact hz_x1
  have BI := Lib.hid (BI.out.stays hbx)
  have BH := Lib.hid (BH.out.stays hbx)
  have BJ := Lib.hid (BJ.out.stays hbx)
  have BK := Lib.hid (BK.out.stays hbx)
  have BQ := Lib.hid (show Blk x3 q_ 44 #[.int .i64 0, .int .i64 0, .int .u64 0, .int .u64 0, .bool false] by rw [ex3, eq_]; exact blk_new1_0 _ _ _ )
  have R4 := Lib.hid (R2.out.trans (hbx.mono hz_x1))
  have hz_x3 := R4.out.size
  clear hbx ex3 eq_ R2 hz_x1
  have kI_0 : x3.cell? ⟨i_, 0, none⟩ = some (.bool true) := BI.out.cell 0
  go_wp2_with fail
  refine (ticksValid_yes _ v1 v2 _).mono ?_
  rintro e q_ ⟨rfl, rfl⟩
  have kI_1 : x3.cell? ⟨i_, 1, none⟩ = some (.bool true) := BI.out.cell 1
  have kI_2 : x3.cell? ⟨i_, 2, none⟩ = some (.int .u64 tr) := BI.out.cell 2
  have kI_3 : x3.cell? ⟨i_, 3, none⟩ = some (.int .i64 asked) := BI.out.cell 3
  have kI_4 : x3.cell? ⟨i_, 4, none⟩ = some (.int .i64 sent) := BI.out.cell 4
  have kI_5 : x3.cell? ⟨i_, 5, none⟩ = some (.int .i64 got) := BI.out.cell 5
  have kI_6 : x3.cell? ⟨i_, 6, none⟩ = some (.int .u64 re) := BI.out.cell 6
  have kI_7 : x3.cell? ⟨i_, 7, none⟩ = some (.int .u64 ma) := BI.out.cell 7
  have kH_2 : x3.cell? ⟨h_, 2, none⟩ = some (.int .i64 h2) := BH.out.cell 2
  have kH_10 : x3.cell? ⟨h_, 10, none⟩ = some (.int .u64 h10) := BH.out.cell 10
  have kH_11 : x3.cell? ⟨h_, 11, none⟩ = some (.int .u64 h11) := BH.out.cell 11
  have kH_12 : x3.cell? ⟨h_, 12, none⟩ = some (.int .u64 h12) := BH.out.cell 12
  have fQ_0 := BQ.out.frozen 0
  have fQ_1 := BQ.out.frozen 1
  have fQ_2 := BQ.out.frozen 2
  have fQ_3 := BQ.out.frozen 3
  have fQ_4 := BQ.out.frozen 4
  have kQ_0 : x3.cell? ⟨q_, 0, none⟩ = some (.int .i64 0) := BQ.out.cell 0
  have kQ_1 : x3.cell? ⟨q_, 1, none⟩ = some (.int .i64 0) := BQ.out.cell 1
  have kQ_2 : x3.cell? ⟨q_, 2, none⟩ = some (.int .u64 0) := BQ.out.cell 2
  have kQ_3 : x3.cell? ⟨q_, 3, none⟩ = some (.int .u64 0) := BQ.out.cell 3
  have kQ_4 : x3.cell? ⟨q_, 4, none⟩ = some (.bool false) := BQ.out.cell 4
  go_upto_region 15 with fail
  clear kI_0 kI_1 kI_2 kI_3 kI_4 kI_5 kI_6 kI_7 kH_2 kH_10 kH_11 kH_12 fQ_0 fQ_1 fQ_2 fQ_3 fQ_4 kQ_0 kQ_1 kQ_2 kQ_3 kQ_4
  obtain ⟨x5, ex5⟩ : ∃ x5, x5 = ((((x3.setCell ⟨q_, 0, none⟩ (.int .i64 sent)).setCell ⟨q_, 1, none⟩ (.int .i64 got)).setCell ⟨q_, 2, none⟩ (.int .u64 re)).setCell ⟨q_, 3, none⟩ (.int .u64 h12)).setCell ⟨q_, 4, none⟩ (.bool true) := ⟨_, rfl⟩
  rw [← ex5]
  have BI := Lib.hid (show Blk x5 i_ 27 #[.bool true, .bool true, .int .u64 tr, .int .i64 asked, .int .i64 sent, .int .i64 got, .int .u64 re, .int .u64 ma] from by rw [ex5]; exact (((((BI.out.far (p := ⟨q_, 0, none⟩) (by simp only []; omega) _).far (p := ⟨q_, 1, none⟩) (by simp only []; omega) _).far (p := ⟨q_, 2, none⟩) (by simp only []; omega) _).far (p := ⟨q_, 3, none⟩) (by simp only []; omega) _).far (p := ⟨q_, 4, none⟩) (by simp only []; omega) _))
  have BH := Lib.hid (show Blk x5 h_ 35 #[.int .i64 h0, .int .i64 h1, .int .i64 h2, .int .i64 h3, .int .i64 h4, .int .i64 h5, .int .u32 h6, .int .u32 h7, .int .u32 h8, .int .u64 h9, .int .u64 h10, .int .u64 h11, .int .u64 h12] from by rw [ex5]; exact (((((BH.out.far (p := ⟨q_, 0, none⟩) (by simp only []; omega) _).far (p := ⟨q_, 1, none⟩) (by simp only []; omega) _).far (p := ⟨q_, 2, none⟩) (by simp only []; omega) _).far (p := ⟨q_, 3, none⟩) (by simp only []; omega) _).far (p := ⟨q_, 4, none⟩) (by simp only []; omega) _))
  have BJ := Lib.hid (show Blk x5 j_ 27 #[.bool false, .bool false, .int .u64 0, .int .i64 0, .int .i64 0, .int .i64 0, .int .u64 0, .int .u64 0] from by rw [ex5]; exact (((((BJ.out.far (p := ⟨q_, 0, none⟩) (by simp only []; omega) _).far (p := ⟨q_, 1, none⟩) (by simp only []; omega) _).far (p := ⟨q_, 2, none⟩) (by simp only []; omega) _).far (p := ⟨q_, 3, none⟩) (by simp only []; omega) _).far (p := ⟨q_, 4, none⟩) (by simp only []; omega) _))
  have BK := Lib.hid (show Blk x5 k_ 44 #[.int .i64 0, .int .i64 0, .int .u64 0, .int .u64 0, .bool false] from by rw [ex5]; exact (((((BK.out.far (p := ⟨q_, 0, none⟩) (by simp only []; omega) _).far (p := ⟨q_, 1, none⟩) (by simp only []; omega) _).far (p := ⟨q_, 2, none⟩) (by simp only []; omega) _).far (p := ⟨q_, 3, none⟩) (by simp only []; omega) _).far (p := ⟨q_, 4, none⟩) (by simp only []; omega) _))
  have BQ := Lib.hid (show Blk x5 q_ 44 #[.int .i64 sent, .int .i64 got, .int .u64 re, .int .u64 h12, .bool true] from by rw [ex5]; exact (((((BQ.out.put 0 _).put 1 _).put 2 _).put 3 _).put 4 _))
  have R6 := Lib.hid (show Below w.heap.size w x5 from by rw [ex5]; exact (((((R4.out.setCell (p := ⟨q_, 0, none⟩) (by simp only []; omega) _).setCell (p := ⟨q_, 1, none⟩) (by simp only []; omega) _).setCell (p := ⟨q_, 2, none⟩) (by simp only []; omega) _).setCell (p := ⟨q_, 3, none⟩) (by simp only []; omega) _).setCell (p := ⟨q_, 4, none⟩) (by simp only []; omega) _))
  have hz_x5 := R6.out.size
  clear R4 hz_x3
  clear ex5
  have cI := BI.out.cell
  have cH := BH.out.cell
  have cJ := BJ.out.cell
  have cK := BK.out.cell
  have cQ := BQ.out.cell
  have zJ := BJ.out.frozen
  have zK := BK.out.frozen
  have n_Q_J : ¬ q_ = j_ := by omega
  have n_J_Q : ¬ j_ = q_ := by omega
  have n_Q_K : ¬ q_ = k_ := by omega
  have n_K_Q : ¬ k_ = q_ := by omega
  have n_J_K : ¬ j_ = k_ := by omega
  have n_K_J : ¬ k_ = j_ := by omega
  have n_I_J : ¬ i_ = j_ := by omega
  have n_J_I : ¬ j_ = i_ := by omega
  have n_H_J : ¬ h_ = j_ := by omega
  have n_J_H : ¬ j_ = h_ := by omega
  have n_I_K : ¬ i_ = k_ := by omega
  have n_K_I : ¬ k_ = i_ := by omega
  have n_H_K : ¬ h_ = k_ := by omega
  have n_K_H : ¬ k_ = h_ := by omega
  go_region
  clear cI cH cJ cK cQ zJ zK n_Q_J n_J_Q n_Q_K n_K_Q n_J_K n_K_J n_I_J n_J_I n_H_J n_J_H n_I_K n_K_I n_H_K n_K_H
  generalize hwd : World.drew (World.setCell _ ⟨k_, 4, none⟩ _) = wd
  have hwd2 : (stores (stores x5 j_ [.bool false, .bool true, .int .u64 0, .int .i64 0, .int .i64 asked, .int .i64 at_, .int .u64 h11, .int .u64 tr] 0) k_ [.int .i64 sent, .int .i64 got, .int .u64 re, .int .u64 h12, .bool true] 0).drew = wd := hwd
  have D1 : Blk wd j_ 27 #[.bool false, .bool true, .int .u64 0, .int .i64 0, .int .i64 asked, .int .i64 at_, .int .u64 h11, .int .u64 tr] := by rw [← hwd2]; exact BJ.out.two1 _ _ rfl (by omega)
  have D2 : Blk wd k_ 44 #[.int .i64 sent, .int .i64 got, .int .u64 re, .int .u64 h12, .bool true] := by rw [← hwd2]; exact BK.out.two2 _ _ rfl (by omega)
  have RD : Below w.heap.size w wd := by rw [← hwd2]; exact (Below.stores (by omega) _ _ _ (Below.stores (by omega) _ _ _ R6.out)).drew
  clear hwd2
  clear hwd
  have d1_0 : wd.cell? ⟨j_, 0, none⟩ = some (.bool false) := D1.cell 0
  have d1_1 : wd.cell? ⟨j_, 1, none⟩ = some (.bool true) := D1.cell 1
  have d1_2 : wd.cell? ⟨j_, 2, none⟩ = some (.int .u64 0) := D1.cell 2
  have d1_3 : wd.cell? ⟨j_, 3, none⟩ = some (.int .i64 0) := D1.cell 3
  have d1_4 : wd.cell? ⟨j_, 4, none⟩ = some (.int .i64 asked) := D1.cell 4
  have d1_5 : wd.cell? ⟨j_, 5, none⟩ = some (.int .i64 at_) := D1.cell 5
  have d1_6 : wd.cell? ⟨j_, 6, none⟩ = some (.int .u64 h11) := D1.cell 6
  have d1_7 : wd.cell? ⟨j_, 7, none⟩ = some (.int .u64 tr) := D1.cell 7
  have d2_0 : wd.cell? ⟨k_, 0, none⟩ = some (.int .i64 sent) := D2.cell 0
  have d2_1 : wd.cell? ⟨k_, 1, none⟩ = some (.int .i64 got) := D2.cell 1
  have d2_2 : wd.cell? ⟨k_, 2, none⟩ = some (.int .u64 re) := D2.cell 2
  have d2_3 : wd.cell? ⟨k_, 3, none⟩ = some (.int .u64 h12) := D2.cell 3
  have d2_4 : wd.cell? ⟨k_, 4, none⟩ = some (.bool true) := D2.cell 4
  go_wp2_with fail
  refine bodyPost_ret (v := .tuple #[.agg #[.bool false, .bool true, .int .u64 0, .int .i64 0, .int .i64 asked, .int .i64 at_, .int .u64 h11, .int .u64 tr], .agg #[.int .i64 sent, .int .i64 got, .int .u64 re, .int .u64 h12, .bool true], .int .i64 0]) (by simp [results, Try.results9, go_sem, *]) rfl ⟨rfl, RD⟩
set_option maxRecDepth 100000 in
set_option maxHeartbeats 4000000 in
theorem ilTake_match (tr : Nat) (asked sent got : Int) (re ma : Nat) (h0 h1 h2 h3 h4 h5 : Int) (h6 h7 h8 h9 h10 h11 h12 : Nat) (at_ : Int) (v1 : -1152921504606846976 ≤ at_) (v2 : at_ ≤ 1152921504606846976) (ha : asked ≤ at_) (hm : h2 = 4) (ho : ¬ h10 = tr) (w : World) :
    Calls Try.prog 9 #[.agg #[.bool true, .bool false, .int .u64 tr, .int .i64 asked, .int .i64 sent, .int .i64 got, .int .u64 re, .int .u64 ma], .agg #[.int .i64 h0, .int .i64 h1, .int .i64 h2, .int .i64 h3, .int .i64 h4, .int .i64 h5, .int .u32 h6, .int .u32 h7, .int .u32 h8, .int .u64 h9, .int .u64 h10, .int .u64 h11, .int .u64 h12], .int .i64 at_] w fun e w' =>
      e = .returned (.tuple #[.agg #[.bool false, .bool false, .int .u64 0, .int .i64 0, .int .i64 0, .int .i64 0, .int .u64 0, .int .u64 0], .agg #[.int .i64 0, .int .i64 0, .int .u64 0, .int .u64 0, .bool false], .int .i64 23]) ∧ Below w.heap.size w w' := by
  have hmd : ((h2 : Int) != 4) = false := by simpa using hm
  clear hm
  have ha2 : ¬ at_ < asked := by omega
  have ho2 : ¬ (h10 : Int) = (tr : Int) := by omega
  have hod : ((h10 : Int) == (tr : Int)) = false := by simpa using ho2
  go_enter Try.func9, Try.ntmps9
  go_upto_region 1 with fail
  obtain ⟨x1, i_, h_, j_, k_, ex1, ei_, eh_, ej_, ek_⟩ : ∃ x1 i_ h_ j_ k_, x1 = (((w.alloc (.cells #[.bool true, .bool false, .int .u64 tr, .int .i64 asked, .int .i64 sent, .int .i64 got, .int .u64 re, .int .u64 ma] 27)).alloc (.cells #[.int .i64 h0, .int .i64 h1, .int .i64 h2, .int .i64 h3, .int .i64 h4, .int .i64 h5, .int .u32 h6, .int .u32 h7, .int .u32 h8, .int .u64 h9, .int .u64 h10, .int .u64 h11, .int .u64 h12] 35)).alloc (.cells #[.bool false, .bool false, .int .u64 0, .int .i64 0, .int .i64 0, .int .i64 0, .int .u64 0, .int .u64 0] 27)).alloc (.cells #[.int .i64 0, .int .i64 0, .int .u64 0, .int .u64 0, .bool false] 44) ∧ i_ = w.heap.size ∧ h_ = w.heap.size + 1 ∧ j_ = w.heap.size + 1 + 1 ∧ k_ = w.heap.size + 1 + 1 + 1 := ⟨_, _, _, _, _, rfl, rfl, rfl, rfl, rfl⟩
  rw [← ex1, ← ek_, ← ej_, ← eh_, ← ei_]
  have hbx : Below w.heap.size w x1 := by rw [ex1]; exact below_alloc4 _ _ _ _ _ 
  have o_I_H : i_ < h_ := by omega
  have o_H_J : h_ < j_ := by omega
  have o_J_K : j_ < k_ := by omega
  have g_I : w.heap.size ≤ i_ := by rw [ei_]; exact Nat.le_refl _
  have BI := Lib.hid (show Blk x1 i_ 27 #[.bool true, .bool false, .int .u64 tr, .int .i64 asked, .int .i64 sent, .int .i64 got, .int .u64 re, .int .u64 ma] by rw [ex1, ei_]; exact blk_new4_0 _ _ _ _ _ _ _ _ _ )
  have BH := Lib.hid (show Blk x1 h_ 35 #[.int .i64 h0, .int .i64 h1, .int .i64 h2, .int .i64 h3, .int .i64 h4, .int .i64 h5, .int .u32 h6, .int .u32 h7, .int .u32 h8, .int .u64 h9, .int .u64 h10, .int .u64 h11, .int .u64 h12] by rw [ex1, eh_]; exact blk_new4_1 _ _ _ _ _ _ _ _ _ )
  have BJ := Lib.hid (show Blk x1 j_ 27 #[.bool false, .bool false, .int .u64 0, .int .i64 0, .int .i64 0, .int .i64 0, .int .u64 0, .int .u64 0] by rw [ex1, ej_]; exact blk_new4_2 _ _ _ _ _ _ _ _ _ )
  have BK := Lib.hid (show Blk x1 k_ 44 #[.int .i64 0, .int .i64 0, .int .u64 0, .int .u64 0, .bool false] by rw [ex1, ek_]; exact blk_new4_3 _ _ _ _ _ _ _ _ _ )
  have R2 := Lib.hid hbx
  have hz_x1 := R2.out.size
  clear hbx ex1 ei_ eh_ ej_ ek_
  go_upto_region 3 with fail
  obtain ⟨x3, q_, ex3, eq_⟩ : ∃ x3 q_, x3 = x1.alloc (.cells #[.int .i64 0, .int .i64 0, .int .u64 0, .int .u64 0, .bool false] 44) ∧ q_ = x1.heap.size := ⟨_, _, rfl, rfl⟩
  rw [← ex3, ← eq_]
  have hbx : Below x1.heap.size x1 x3 := by rw [ex3]; exact below_alloc1 _ _ 
  have o_I_Q : i_ < q_ := by rw [eq_]; exact BI.out.lt
  have o_H_Q : h_ < q_ := by rw [eq_]; exact BH.out.lt
  have o_J_Q : j_ < q_ := by rw [eq_]; exact BJ.out.lt
  have o_K_Q : k_ < q_ := by rw [eq_]; exact BK.out.lt
  have g_Q : w.heap.size ≤ q_ := by rw [eq_]; exact hz_x1
  have BI := Lib.hid (BI.out.stays hbx)
  have BH := Lib.hid (BH.out.stays hbx)
  have BJ := Lib.hid (BJ.out.stays hbx)
  have BK := Lib.hid (BK.out.stays hbx)
  have BQ := Lib.hid (show Blk x3 q_ 44 #[.int .i64 0, .int .i64 0, .int .u64 0, .int .u64 0, .bool false] by rw [ex3, eq_]; exact blk_new1_0 _ _ _ )
  have R4 := Lib.hid (R2.out.trans (hbx.mono hz_x1))
  have hz_x3 := R4.out.size
  clear hbx ex3 eq_ R2 hz_x1
  have kI_0 : x3.cell? ⟨i_, 0, none⟩ = some (.bool true) := BI.out.cell 0
  go_wp2_with fail
  refine (ticksValid_yes _ v1 v2 _).mono ?_
  rintro e q_ ⟨rfl, rfl⟩
  have kI_1 : x3.cell? ⟨i_, 1, none⟩ = some (.bool false) := BI.out.cell 1
  have kI_2 : x3.cell? ⟨i_, 2, none⟩ = some (.int .u64 tr) := BI.out.cell 2
  have kI_3 : x3.cell? ⟨i_, 3, none⟩ = some (.int .i64 asked) := BI.out.cell 3
  have kI_4 : x3.cell? ⟨i_, 4, none⟩ = some (.int .i64 sent) := BI.out.cell 4
  have kI_5 : x3.cell? ⟨i_, 5, none⟩ = some (.int .i64 got) := BI.out.cell 5
  have kI_6 : x3.cell? ⟨i_, 6, none⟩ = some (.int .u64 re) := BI.out.cell 6
  have kI_7 : x3.cell? ⟨i_, 7, none⟩ = some (.int .u64 ma) := BI.out.cell 7
  have kH_2 : x3.cell? ⟨h_, 2, none⟩ = some (.int .i64 h2) := BH.out.cell 2
  have kH_10 : x3.cell? ⟨h_, 10, none⟩ = some (.int .u64 h10) := BH.out.cell 10
  have kH_11 : x3.cell? ⟨h_, 11, none⟩ = some (.int .u64 h11) := BH.out.cell 11
  have kH_12 : x3.cell? ⟨h_, 12, none⟩ = some (.int .u64 h12) := BH.out.cell 12
  go_upto_region 2 with fail
  clear kI_0 kI_1 kI_2 kI_3 kI_4 kI_5 kI_6 kI_7 kH_2 kH_10 kH_11 kH_12
  have cI := BI.out.cell
  have cH := BH.out.cell
  have cJ := BJ.out.cell
  have cK := BK.out.cell
  have cQ := BQ.out.cell
  have zJ := BJ.out.frozen
  have zK := BK.out.frozen
  have n_Q_J : ¬ q_ = j_ := by omega
  have n_J_Q : ¬ j_ = q_ := by omega
  have n_Q_K : ¬ q_ = k_ := by omega
  have n_K_Q : ¬ k_ = q_ := by omega
  have n_J_K : ¬ j_ = k_ := by omega
  have n_K_J : ¬ k_ = j_ := by omega
  have n_I_J : ¬ i_ = j_ := by omega
  have n_J_I : ¬ j_ = i_ := by omega
  have n_H_J : ¬ h_ = j_ := by omega
  have n_J_H : ¬ j_ = h_ := by omega
  have n_I_K : ¬ i_ = k_ := by omega
  have n_K_I : ¬ k_ = i_ := by omega
  have n_H_K : ¬ h_ = k_ := by omega
  have n_K_H : ¬ k_ = h_ := by omega
  go_region
  clear cI cH cJ cK cQ zJ zK n_Q_J n_J_Q n_Q_K n_K_Q n_J_K n_K_J n_I_J n_J_I n_H_J n_J_H n_I_K n_K_I n_H_K n_K_H
  generalize hwd : World.drew (World.setCell _ ⟨k_, 4, none⟩ _) = wd
  have hwd2 : (stores (stores x3 j_ [.bool false, .bool false, .int .u64 0, .int .i64 0, .int .i64 0, .int .i64 0, .int .u64 0, .int .u64 0] 0) k_ [.int .i64 0, .int .i64 0, .int .u64 0, .int .u64 0, .bool false] 0).drew = wd := hwd
  have D1 : Blk wd j_ 27 #[.bool false, .bool false, .int .u64 0, .int .i64 0, .int .i64 0, .int .i64 0, .int .u64 0, .int .u64 0] := by rw [← hwd2]; exact BJ.out.two1 _ _ rfl (by omega)
  have D2 : Blk wd k_ 44 #[.int .i64 0, .int .i64 0, .int .u64 0, .int .u64 0, .bool false] := by rw [← hwd2]; exact BK.out.two2 _ _ rfl (by omega)
  have RD : Below w.heap.size w wd := by rw [← hwd2]; exact (Below.stores (by omega) _ _ _ (Below.stores (by omega) _ _ _ R4.out)).drew
  clear hwd2
  clear hwd
  have d1_0 : wd.cell? ⟨j_, 0, none⟩ = some (.bool false) := D1.cell 0
  have d1_1 : wd.cell? ⟨j_, 1, none⟩ = some (.bool false) := D1.cell 1
  have d1_2 : wd.cell? ⟨j_, 2, none⟩ = some (.int .u64 0) := D1.cell 2
  have d1_3 : wd.cell? ⟨j_, 3, none⟩ = some (.int .i64 0) := D1.cell 3
  have d1_4 : wd.cell? ⟨j_, 4, none⟩ = some (.int .i64 0) := D1.cell 4
  have d1_5 : wd.cell? ⟨j_, 5, none⟩ = some (.int .i64 0) := D1.cell 5
  have d1_6 : wd.cell? ⟨j_, 6, none⟩ = some (.int .u64 0) := D1.cell 6
  have d1_7 : wd.cell? ⟨j_, 7, none⟩ = some (.int .u64 0) := D1.cell 7
  have d2_0 : wd.cell? ⟨k_, 0, none⟩ = some (.int .i64 0) := D2.cell 0
  have d2_1 : wd.cell? ⟨k_, 1, none⟩ = some (.int .i64 0) := D2.cell 1
  have d2_2 : wd.cell? ⟨k_, 2, none⟩ = some (.int .u64 0) := D2.cell 2
  have d2_3 : wd.cell? ⟨k_, 3, none⟩ = some (.int .u64 0) := D2.cell 3
  have d2_4 : wd.cell? ⟨k_, 4, none⟩ = some (.bool false) := D2.cell 4
  go_wp2_with fail
  refine bodyPost_ret (v := .tuple #[.agg #[.bool false, .bool false, .int .u64 0, .int .i64 0, .int .i64 0, .int .i64 0, .int .u64 0, .int .u64 0], .agg #[.int .i64 0, .int .i64 0, .int .u64 0, .int .u64 0, .bool false], .int .i64 23]) (by simp [results, Try.results9, go_sem, *]) rfl ⟨rfl, RD⟩
set_option maxRecDepth 100000 in
set_option maxHeartbeats 4000000 in
theorem ilTake_state (k : Bool) (tr : Nat) (asked sent got : Int) (re ma : Nat) (h0 h1 h2 h3 h4 h5 : Int) (h6 h7 h8 h9 h10 h11 h12 : Nat) (at_ : Int)  (w : World) :
    Calls Try.prog 9 #[.agg #[.bool false, .bool k, .int .u64 tr, .int .i64 asked, .int .i64 sent, .int .i64 got, .int .u64 re, .int .u64 ma], .agg #[.int .i64 h0, .int .i64 h1, .int .i64 h2, .int .i64 h3, .int .i64 h4, .int .i64 h5, .int .u32 h6, .int .u32 h7, .int .u32 h8, .int .u64 h9, .int .u64 h10, .int .u64 h11, .int .u64 h12], .int .i64 at_] w fun e w' =>
      e = .returned (.tuple #[.agg #[.bool false, .bool false, .int .u64 0, .int .i64 0, .int .i64 0, .int .i64 0, .int .u64 0, .int .u64 0], .agg #[.int .i64 0, .int .i64 0, .int .u64 0, .int .u64 0, .bool false], .int .i64 7]) ∧ Below w.heap.size w w' := by
  go_enter Try.func9, Try.ntmps9
  go_upto_region 1 with fail
  obtain ⟨x1, i_, h_, j_, k_, ex1, ei_, eh_, ej_, ek_⟩ : ∃ x1 i_ h_ j_ k_, x1 = (((w.alloc (.cells #[.bool false, .bool k, .int .u64 tr, .int .i64 asked, .int .i64 sent, .int .i64 got, .int .u64 re, .int .u64 ma] 27)).alloc (.cells #[.int .i64 h0, .int .i64 h1, .int .i64 h2, .int .i64 h3, .int .i64 h4, .int .i64 h5, .int .u32 h6, .int .u32 h7, .int .u32 h8, .int .u64 h9, .int .u64 h10, .int .u64 h11, .int .u64 h12] 35)).alloc (.cells #[.bool false, .bool false, .int .u64 0, .int .i64 0, .int .i64 0, .int .i64 0, .int .u64 0, .int .u64 0] 27)).alloc (.cells #[.int .i64 0, .int .i64 0, .int .u64 0, .int .u64 0, .bool false] 44) ∧ i_ = w.heap.size ∧ h_ = w.heap.size + 1 ∧ j_ = w.heap.size + 1 + 1 ∧ k_ = w.heap.size + 1 + 1 + 1 := ⟨_, _, _, _, _, rfl, rfl, rfl, rfl, rfl⟩
  rw [← ex1, ← ek_, ← ej_, ← eh_, ← ei_]
  have hbx : Below w.heap.size w x1 := by rw [ex1]; exact below_alloc4 _ _ _ _ _ 
  have o_I_H : i_ < h_ := by omega
  have o_H_J : h_ < j_ := by omega
  have o_J_K : j_ < k_ := by omega
  have g_I : w.heap.size ≤ i_ := by rw [ei_]; exact Nat.le_refl _
  have BI := Lib.hid (show Blk x1 i_ 27 #[.bool false, .bool k, .int .u64 tr, .int .i64 asked, .int .i64 sent, .int .i64 got, .int .u64 re, .int .u64 ma] by rw [ex1, ei_]; exact blk_new4_0 _ _ _ _ _ _ _ _ _ )
  have BH := Lib.hid (show Blk x1 h_ 35 #[.int .i64 h0, .int .i64 h1, .int .i64 h2, .int .i64 h3, .int .i64 h4, .int .i64 h5, .int .u32 h6, .int .u32 h7, .int .u32 h8, .int .u64 h9, .int .u64 h10, .int .u64 h11, .int .u64 h12] by rw [ex1, eh_]; exact blk_new4_1 _ _ _ _ _ _ _ _ _ )
  have BJ := Lib.hid (show Blk x1 j_ 27 #[.bool false, .bool false, .int .u64 0, .int .i64 0, .int .i64 0, .int .i64 0, .int .u64 0, .int .u64 0] by rw [ex1, ej_]; exact blk_new4_2 _ _ _ _ _ _ _ _ _ )
  have BK := Lib.hid (show Blk x1 k_ 44 #[.int .i64 0, .int .i64 0, .int .u64 0, .int .u64 0, .bool false] by rw [ex1, ek_]; exact blk_new4_3 _ _ _ _ _ _ _ _ _ )
  have R2 := Lib.hid hbx
  have hz_x1 := R2.out.size
  clear hbx ex1 ei_ eh_ ej_ ek_
  go_upto_region 3 with fail
  obtain ⟨x3, q_, ex3, eq_⟩ : ∃ x3 q_, x3 = x1.alloc (.cells #[.int .i64 0, .int .i64 0, .int .u64 0, .int .u64 0, .bool false] 44) ∧ q_ = x1.heap.size := ⟨_, _, rfl, rfl⟩
  rw [← ex3, ← eq_]
  have hbx : Below x1.heap.size x1 x3 := by rw [ex3]; exact below_alloc1 _ _ 
  have o_I_Q : i_ < q_ := by rw [eq_]; exact BI.out.lt
  have o_H_Q : h_ < q_ := by rw [eq_]; exact BH.out.lt
  have o_J_Q : j_ < q_ := by rw [eq_]; exact BJ.out.lt
  have o_K_Q : k_ < q_ := by rw [eq_]; exact BK.out.lt
  have g_Q : w.heap.size ≤ q_ := by rw [eq_]; exact hz_x1
  have BI := Lib.hid (BI.out.stays hbx)
  have BH := Lib.hid (BH.out.stays hbx)
  have BJ := Lib.hid (BJ.out.stays hbx)
  have BK := Lib.hid (BK.out.stays hbx)
  have BQ := Lib.hid (show Blk x3 q_ 44 #[.int .i64 0, .int .i64 0, .int .u64 0, .int .u64 0, .bool false] by rw [ex3, eq_]; exact blk_new1_0 _ _ _ )
  have R4 := Lib.hid (R2.out.trans (hbx.mono hz_x1))
  have hz_x3 := R4.out.size
  clear hbx ex3 eq_ R2 hz_x1
  have kI_0 : x3.cell? ⟨i_, 0, none⟩ = some (.bool false) := BI.out.cell 0
  go_upto_region 4 with fail
  clear kI_0
  have cI := BI.out.cell
  have cH := BH.out.cell
  have cJ := BJ.out.cell
  have cK := BK.out.cell
  have cQ := BQ.out.cell
  have zJ := BJ.out.frozen
  have zK := BK.out.frozen
  have n_Q_J : ¬ q_ = j_ := by omega
  have n_J_Q : ¬ j_ = q_ := by omega
  have n_Q_K : ¬ q_ = k_ := by omega
  have n_K_Q : ¬ k_ = q_ := by omega
  have n_J_K : ¬ j_ = k_ := by omega
  have n_K_J : ¬ k_ = j_ := by omega
  have n_I_J : ¬ i_ = j_ := by omega
  have n_J_I : ¬ j_ = i_ := by omega
  have n_H_J : ¬ h_ = j_ := by omega
  have n_J_H : ¬ j_ = h_ := by omega
  have n_I_K : ¬ i_ = k_ := by omega
  have n_K_I : ¬ k_ = i_ := by omega
  have n_H_K : ¬ h_ = k_ := by omega
  have n_K_H : ¬ k_ = h_ := by omega
  go_region
  clear cI cH cJ cK cQ zJ zK n_Q_J n_J_Q n_Q_K n_K_Q n_J_K n_K_J n_I_J n_J_I n_H_J n_J_H n_I_K n_K_I n_H_K n_K_H
  generalize hwd : World.drew (World.setCell _ ⟨k_, 4, none⟩ _) = wd
  have hwd2 : (stores (stores x3 j_ [.bool false, .bool false, .int .u64 0, .int .i64 0, .int .i64 0, .int .i64 0, .int .u64 0, .int .u64 0] 0) k_ [.int .i64 0, .int .i64 0, .int .u64 0, .int .u64 0, .bool false] 0).drew = wd := hwd
  have D1 : Blk wd j_ 27 #[.bool false, .bool false, .int .u64 0, .int .i64 0, .int .i64 0, .int .i64 0, .int .u64 0, .int .u64 0] := by rw [← hwd2]; exact BJ.out.two1 _ _ rfl (by omega)
  have D2 : Blk wd k_ 44 #[.int .i64 0, .int .i64 0, .int .u64 0, .int .u64 0, .bool false] := by rw [← hwd2]; exact BK.out.two2 _ _ rfl (by omega)
  have RD : Below w.heap.size w wd := by rw [← hwd2]; exact (Below.stores (by omega) _ _ _ (Below.stores (by omega) _ _ _ R4.out)).drew
  clear hwd2
  clear hwd
  have d1_0 : wd.cell? ⟨j_, 0, none⟩ = some (.bool false) := D1.cell 0
  have d1_1 : wd.cell? ⟨j_, 1, none⟩ = some (.bool false) := D1.cell 1
  have d1_2 : wd.cell? ⟨j_, 2, none⟩ = some (.int .u64 0) := D1.cell 2
  have d1_3 : wd.cell? ⟨j_, 3, none⟩ = some (.int .i64 0) := D1.cell 3
  have d1_4 : wd.cell? ⟨j_, 4, none⟩ = some (.int .i64 0) := D1.cell 4
  have d1_5 : wd.cell? ⟨j_, 5, none⟩ = some (.int .i64 0) := D1.cell 5
  have d1_6 : wd.cell? ⟨j_, 6, none⟩ = some (.int .u64 0) := D1.cell 6
  have d1_7 : wd.cell? ⟨j_, 7, none⟩ = some (.int .u64 0) := D1.cell 7
  have d2_0 : wd.cell? ⟨k_, 0, none⟩ = some (.int .i64 0) := D2.cell 0
  have d2_1 : wd.cell? ⟨k_, 1, none⟩ = some (.int .i64 0) := D2.cell 1
  have d2_2 : wd.cell? ⟨k_, 2, none⟩ = some (.int .u64 0) := D2.cell 2
  have d2_3 : wd.cell? ⟨k_, 3, none⟩ = some (.int .u64 0) := D2.cell 3
  have d2_4 : wd.cell? ⟨k_, 4, none⟩ = some (.bool false) := D2.cell 4
  go_wp2_with fail
  refine bodyPost_ret (v := .tuple #[.agg #[.bool false, .bool false, .int .u64 0, .int .i64 0, .int .i64 0, .int .i64 0, .int .u64 0, .int .u64 0], .agg #[.int .i64 0, .int .i64 0, .int .u64 0, .int .u64 0, .bool false], .int .i64 7]) (by simp [results, Try.results9, go_sem, *]) rfl ⟨rfl, RD⟩
end Go.Proofs.Ytfkckokaclkjnaa
