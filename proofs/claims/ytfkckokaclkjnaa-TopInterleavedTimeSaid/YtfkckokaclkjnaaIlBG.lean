/- interleave.Ask with a known exchange, and its errors. -/
import Derived.Test.YtfkckokaclkjnaaIlAG
import Derived.Test.YtfkckokaclkjnaaBlks
namespace Go.Proofs.Ytfkckokaclkjnaa
open Go.RowKit

set_option maxRecDepth 100000 in
set_option maxHeartbeats 4000000 in
theorem ilAsk_known (o : Bool) (tr : Nat) (asked sent got : Int) (re ma : Nat) (t : Nat) (at_ : Int) (h1 : -1152921504606846976 ≤ at_) (h2 : at_ ≤ 1152921504606846976) (ht : ¬ t = 0) (hm : ¬ t = ma) (w : World) :
    Calls Try.prog 6 #[.agg #[.bool o, .bool true, .int .u64 tr, .int .i64 asked, .int .i64 sent, .int .i64 got, .int .u64 re, .int .u64 ma], .int .u64 t, .int .i64 at_] w fun e w' =>
      e = .returned (.tuple #[.agg #[.bool true, .bool true, .int .u64 t, .int .i64 at_, .int .i64 sent, .int .i64 got, .int .u64 re, .int .u64 ma], .agg #[.int .i64 0, .int .i64 4, .int .i64 3, .int .i64 0, .int .i64 6, .int .i64 0, .int .u32 0, .int .u32 0, .int .u32 0, .int .u64 0, .int .u64 re, .int .u64 ma, .int .u64 t], .int .i64 0]) ∧ Below w.heap.size w w' := by
  have ht2 : ¬ (t : Int) = 0 := by omega
  have htd : ((t : Int) == 0) = false := by simpa using ht2
  have hm2 : ¬ (t : Int) = (ma : Int) := by omega
  have hmd : ((t : Int) == (ma : Int)) = false := by simpa using hm2
  go_enter Try.func6, Try.ntmps6
  go_upto_region 1 with fail
  obtain ⟨x1, i_, j_, k_, ex1, ei_, ej_, ek_⟩ : ∃ x1 i_ j_ k_, x1 = ((w.alloc (.cells #[.bool o, .bool true, .int .u64 tr, .int .i64 asked, .int .i64 sent, .int .i64 got, .int .u64 re, .int .u64 ma] 27)).alloc (.cells #[.bool false, .bool false, .int .u64 0, .int .i64 0, .int .i64 0, .int .i64 0, .int .u64 0, .int .u64 0] 27)).alloc (.cells #[.int .i64 0, .int .i64 0, .int .i64 0, .int .i64 0, .int .i64 0, .int .i64 0, .int .u32 0, .int .u32 0, .int .u32 0, .int .u64 0, .int .u64 0, .int .u64 0, .int .u64 0] 35) ∧ i_ = w.heap.size ∧ j_ = w.heap.size + 1 ∧ k_ = w.heap.size + 1 + 1 := ⟨_, _, _, _, rfl, rfl, rfl, rfl⟩
  rw [← ex1, ← ek_, ← ej_, ← ei_]
  have hbx : Below w.heap.size w x1 := by rw [ex1]; exact below_alloc3 _ _ _ _ 
  have o_I_J : i_ < j_ := by omega
  have o_J_K : j_ < k_ := by omega
  have g_I : w.heap.size ≤ i_ := by rw [ei_]; exact Nat.le_refl _
  have BI := Lib.hid (show Blk x1 i_ 27 #[.bool o, .bool true, .int .u64 tr, .int .i64 asked, .int .i64 sent, .int .i64 got, .int .u64 re, .int .u64 ma] by rw [ex1, ei_]; exact blk_new3_0 _ _ _ _ _ _ _ )
  have BJ := Lib.hid (show Blk x1 j_ 27 #[.bool false, .bool false, .int .u64 0, .int .i64 0, .int .i64 0, .int .i64 0, .int .u64 0, .int .u64 0] by rw [ex1, ej_]; exact blk_new3_1 _ _ _ _ _ _ _ )
  have BK := Lib.hid (show Blk x1 k_ 35 #[.int .i64 0, .int .i64 0, .int .i64 0, .int .i64 0, .int .i64 0, .int .i64 0, .int .u32 0, .int .u32 0, .int .u32 0, .int .u64 0, .int .u64 0, .int .u64 0, .int .u64 0] by rw [ex1, ek_]; exact blk_new3_2 _ _ _ _ _ _ _ )
  have R2 := Lib.hid hbx
  have hz_x1 := R2.out.size
  clear hbx ex1 ei_ ej_ ek_
  go_wp2_with fail
  refine (ticksValid_yes _ h1 h2 _).mono ?_
  rintro e q_ ⟨rfl, rfl⟩
  have kI_1 : x1.cell? ⟨i_, 1, none⟩ = some (.bool true) := BI.out.cell 1
  have kI_7 : x1.cell? ⟨i_, 7, none⟩ = some (.int .u64 ma) := BI.out.cell 7
  go_wp2_with fail
  refine (ask_any t _).mono ?_
  rintro e y3 ⟨rfl, hb⟩
  clear kI_1 kI_7
  have hbx : Below x1.heap.size x1 y3 := below_via (by go_grown) hb (by first | (simp; done) | (simp; omega))
  have BI := Lib.hid (BI.out.stays hbx)
  have BJ := Lib.hid (BJ.out.stays hbx)
  have BK := Lib.hid (BK.out.stays hbx)
  have R4 := Lib.hid (R2.out.trans (hbx.mono hz_x1))
  have hz_y3 := R4.out.size
  clear hb hbx  R2 hz_x1
  go_upto_region 6 with fail
  obtain ⟨x5, h_, ex5, eh_⟩ : ∃ x5 h_, x5 = y3.alloc (.cells #[.int .i64 0, .int .i64 4, .int .i64 3, .int .i64 0, .int .i64 6, .int .i64 0, .int .u32 0, .int .u32 0, .int .u32 0, .int .u64 0, .int .u64 0, .int .u64 0, .int .u64 t] 35) ∧ h_ = y3.heap.size := ⟨_, _, rfl, rfl⟩
  rw [← ex5, ← eh_]
  have hbx : Below y3.heap.size y3 x5 := by rw [ex5]; exact below_alloc1 _ _ 
  have o_I_H : i_ < h_ := by rw [eh_]; exact BI.out.lt
  have o_J_H : j_ < h_ := by rw [eh_]; exact BJ.out.lt
  have o_K_H : k_ < h_ := by rw [eh_]; exact BK.out.lt
  have g_H : w.heap.size ≤ h_ := by rw [eh_]; exact hz_y3
  have BI := Lib.hid (BI.out.stays hbx)
  have BJ := Lib.hid (BJ.out.stays hbx)
  have BK := Lib.hid (BK.out.stays hbx)
  have BH := Lib.hid (show Blk x5 h_ 35 #[.int .i64 0, .int .i64 4, .int .i64 3, .int .i64 0, .int .i64 6, .int .i64 0, .int .u32 0, .int .u32 0, .int .u32 0, .int .u64 0, .int .u64 0, .int .u64 0, .int .u64 t] by rw [ex5, eh_]; exact blk_new1_0 _ _ _ )
  have R6 := Lib.hid (R4.out.trans (hbx.mono hz_y3))
  have hz_x5 := R6.out.size
  clear hbx ex5 eh_ R4 hz_y3
  have kI_1 : x5.cell? ⟨i_, 1, none⟩ = some (.bool true) := BI.out.cell 1
  go_upto_region 7 with fail
  clear kI_1
  have kI_6 : x5.cell? ⟨i_, 6, none⟩ = some (.int .u64 re) := BI.out.cell 6
  have kI_7 : x5.cell? ⟨i_, 7, none⟩ = some (.int .u64 ma) := BI.out.cell 7
  have kH_10 : x5.cell? ⟨h_, 10, none⟩ = some (.int .u64 0) := BH.out.cell 10
  have kH_11 : x5.cell? ⟨h_, 11, none⟩ = some (.int .u64 0) := BH.out.cell 11
  have fH_10 := BH.out.frozen 10
  have fH_11 := BH.out.frozen 11
  have n_I_H : ¬ i_ = h_ := by omega
  have n_H_I : ¬ h_ = i_ := by omega
  go_region
  clear kI_6 kI_7 kH_10 kH_11 fH_10 fH_11 n_I_H n_H_I
  generalize hwe : World.drew (World.setCell _ ⟨h_, 11, none⟩ _) = we
  have hwe2 : ((x5.setCell ⟨h_, 10, none⟩ (.int .u64 re)).setCell ⟨h_, 11, none⟩ (.int .u64 ma)).drew = we := hwe
  have BI := Lib.hid (show Blk we i_ 27 #[.bool o, .bool true, .int .u64 tr, .int .i64 asked, .int .i64 sent, .int .i64 got, .int .u64 re, .int .u64 ma] by rw [← hwe2]; exact (((BI.out.far (p := ⟨h_, 10, none⟩) (by simp only []; omega) _).far (p := ⟨h_, 11, none⟩) (by simp only []; omega) _)).drew)
  have BJ := Lib.hid (show Blk we j_ 27 #[.bool false, .bool false, .int .u64 0, .int .i64 0, .int .i64 0, .int .i64 0, .int .u64 0, .int .u64 0] by rw [← hwe2]; exact (((BJ.out.far (p := ⟨h_, 10, none⟩) (by simp only []; omega) _).far (p := ⟨h_, 11, none⟩) (by simp only []; omega) _)).drew)
  have BK := Lib.hid (show Blk we k_ 35 #[.int .i64 0, .int .i64 0, .int .i64 0, .int .i64 0, .int .i64 0, .int .i64 0, .int .u32 0, .int .u32 0, .int .u32 0, .int .u64 0, .int .u64 0, .int .u64 0, .int .u64 0] by rw [← hwe2]; exact (((BK.out.far (p := ⟨h_, 10, none⟩) (by simp only []; omega) _).far (p := ⟨h_, 11, none⟩) (by simp only []; omega) _)).drew)
  have BH := Lib.hid (show Blk we h_ 35 #[.int .i64 0, .int .i64 4, .int .i64 3, .int .i64 0, .int .i64 6, .int .i64 0, .int .u32 0, .int .u32 0, .int .u32 0, .int .u64 0, .int .u64 re, .int .u64 ma, .int .u64 t] by rw [← hwe2]; exact (((BH.out.put 10 _).put 11 _)).drew)
  have RE := Lib.hid (show Below w.heap.size w we by rw [← hwe2]; exact ((R6.out.setCell (p := ⟨h_, 10, none⟩) (by simp only []; omega) _).setCell (p := ⟨h_, 11, none⟩) (by simp only []; omega) _).drew)
  have hz_we := RE.out.size
  clear hwe hwe2 R6 hz_x5
  have kI_0 : we.cell? ⟨i_, 0, none⟩ = some (.bool o) := BI.out.cell 0
  have kI_2 : we.cell? ⟨i_, 2, none⟩ = some (.int .u64 tr) := BI.out.cell 2
  have kI_3 : we.cell? ⟨i_, 3, none⟩ = some (.int .i64 asked) := BI.out.cell 3
  have fI_0 := BI.out.frozen 0
  have fI_2 := BI.out.frozen 2
  have fI_3 := BI.out.frozen 3
  go_upto_region 9 with fail
  clear kI_0 kI_2 kI_3 fI_0 fI_2 fI_3
  obtain ⟨x7, ex7⟩ : ∃ x7, x7 = ((we.setCell ⟨i_, 0, none⟩ (.bool true)).setCell ⟨i_, 2, none⟩ (.int .u64 t)).setCell ⟨i_, 3, none⟩ (.int .i64 at_) := ⟨_, rfl⟩
  rw [← ex7]
  have BI := Lib.hid (show Blk x7 i_ 27 #[.bool true, .bool true, .int .u64 t, .int .i64 at_, .int .i64 sent, .int .i64 got, .int .u64 re, .int .u64 ma] from by rw [ex7]; exact (((BI.out.put 0 _).put 2 _).put 3 _))
  have BJ := Lib.hid (show Blk x7 j_ 27 #[.bool false, .bool false, .int .u64 0, .int .i64 0, .int .i64 0, .int .i64 0, .int .u64 0, .int .u64 0] from by rw [ex7]; exact (((BJ.out.far (p := ⟨i_, 0, none⟩) (by simp only []; omega) _).far (p := ⟨i_, 2, none⟩) (by simp only []; omega) _).far (p := ⟨i_, 3, none⟩) (by simp only []; omega) _))
  have BK := Lib.hid (show Blk x7 k_ 35 #[.int .i64 0, .int .i64 0, .int .i64 0, .int .i64 0, .int .i64 0, .int .i64 0, .int .u32 0, .int .u32 0, .int .u32 0, .int .u64 0, .int .u64 0, .int .u64 0, .int .u64 0] from by rw [ex7]; exact (((BK.out.far (p := ⟨i_, 0, none⟩) (by simp only []; omega) _).far (p := ⟨i_, 2, none⟩) (by simp only []; omega) _).far (p := ⟨i_, 3, none⟩) (by simp only []; omega) _))
  have BH := Lib.hid (show Blk x7 h_ 35 #[.int .i64 0, .int .i64 4, .int .i64 3, .int .i64 0, .int .i64 6, .int .i64 0, .int .u32 0, .int .u32 0, .int .u32 0, .int .u64 0, .int .u64 re, .int .u64 ma, .int .u64 t] from by rw [ex7]; exact (((BH.out.far (p := ⟨i_, 0, none⟩) (by simp only []; omega) _).far (p := ⟨i_, 2, none⟩) (by simp only []; omega) _).far (p := ⟨i_, 3, none⟩) (by simp only []; omega) _))
  have R8 := Lib.hid (show Below w.heap.size w x7 from by rw [ex7]; exact (((RE.out.setCell (p := ⟨i_, 0, none⟩) (by simp only []; omega) _).setCell (p := ⟨i_, 2, none⟩) (by simp only []; omega) _).setCell (p := ⟨i_, 3, none⟩) (by simp only []; omega) _))
  have hz_x7 := R8.out.size
  clear RE hz_we
  clear ex7
  have cI := BI.out.cell
  have cJ := BJ.out.cell
  have cK := BK.out.cell
  have cH := BH.out.cell
  have zJ := BJ.out.frozen
  have zK := BK.out.frozen
  have n_H_I : ¬ h_ = i_ := by omega
  have n_I_H : ¬ i_ = h_ := by omega
  have n_H_J : ¬ h_ = j_ := by omega
  have n_J_H : ¬ j_ = h_ := by omega
  have n_H_K : ¬ h_ = k_ := by omega
  have n_K_H : ¬ k_ = h_ := by omega
  have n_I_J : ¬ i_ = j_ := by omega
  have n_J_I : ¬ j_ = i_ := by omega
  have n_J_K : ¬ j_ = k_ := by omega
  have n_K_J : ¬ k_ = j_ := by omega
  go_region
  clear cI cJ cK cH zJ zK n_H_I n_I_H n_H_J n_J_H n_H_K n_K_H n_I_J n_J_I n_J_K n_K_J
  generalize hwd : World.drew (World.setCell _ ⟨k_, 12, none⟩ _) = wd
  have hwd2 : (stores (stores x7 j_ [.bool true, .bool true, .int .u64 t, .int .i64 at_, .int .i64 sent, .int .i64 got, .int .u64 re, .int .u64 ma] 0) k_ [.int .i64 0, .int .i64 4, .int .i64 3, .int .i64 0, .int .i64 6, .int .i64 0, .int .u32 0, .int .u32 0, .int .u32 0, .int .u64 0, .int .u64 re, .int .u64 ma, .int .u64 t] 0).drew = wd := hwd
  have D1 : Blk wd j_ 27 #[.bool true, .bool true, .int .u64 t, .int .i64 at_, .int .i64 sent, .int .i64 got, .int .u64 re, .int .u64 ma] := by rw [← hwd2]; exact BJ.out.two1 _ _ rfl (by omega)
  have D2 : Blk wd k_ 35 #[.int .i64 0, .int .i64 4, .int .i64 3, .int .i64 0, .int .i64 6, .int .i64 0, .int .u32 0, .int .u32 0, .int .u32 0, .int .u64 0, .int .u64 re, .int .u64 ma, .int .u64 t] := by rw [← hwd2]; exact BK.out.two2 _ _ rfl (by omega)
  have RD : Below w.heap.size w wd := by rw [← hwd2]; exact (Below.stores (by omega) _ _ _ (Below.stores (by omega) _ _ _ R8.out)).drew
  clear hwd2
  clear hwd
  have d1_0 : wd.cell? ⟨j_, 0, none⟩ = some (.bool true) := D1.cell 0
  have d1_1 : wd.cell? ⟨j_, 1, none⟩ = some (.bool true) := D1.cell 1
  have d1_2 : wd.cell? ⟨j_, 2, none⟩ = some (.int .u64 t) := D1.cell 2
  have d1_3 : wd.cell? ⟨j_, 3, none⟩ = some (.int .i64 at_) := D1.cell 3
  have d1_4 : wd.cell? ⟨j_, 4, none⟩ = some (.int .i64 sent) := D1.cell 4
  have d1_5 : wd.cell? ⟨j_, 5, none⟩ = some (.int .i64 got) := D1.cell 5
  have d1_6 : wd.cell? ⟨j_, 6, none⟩ = some (.int .u64 re) := D1.cell 6
  have d1_7 : wd.cell? ⟨j_, 7, none⟩ = some (.int .u64 ma) := D1.cell 7
  have d2_0 : wd.cell? ⟨k_, 0, none⟩ = some (.int .i64 0) := D2.cell 0
  have d2_1 : wd.cell? ⟨k_, 1, none⟩ = some (.int .i64 4) := D2.cell 1
  have d2_2 : wd.cell? ⟨k_, 2, none⟩ = some (.int .i64 3) := D2.cell 2
  have d2_3 : wd.cell? ⟨k_, 3, none⟩ = some (.int .i64 0) := D2.cell 3
  have d2_4 : wd.cell? ⟨k_, 4, none⟩ = some (.int .i64 6) := D2.cell 4
  have d2_5 : wd.cell? ⟨k_, 5, none⟩ = some (.int .i64 0) := D2.cell 5
  have d2_6 : wd.cell? ⟨k_, 6, none⟩ = some (.int .u32 0) := D2.cell 6
  have d2_7 : wd.cell? ⟨k_, 7, none⟩ = some (.int .u32 0) := D2.cell 7
  have d2_8 : wd.cell? ⟨k_, 8, none⟩ = some (.int .u32 0) := D2.cell 8
  have d2_9 : wd.cell? ⟨k_, 9, none⟩ = some (.int .u64 0) := D2.cell 9
  have d2_10 : wd.cell? ⟨k_, 10, none⟩ = some (.int .u64 re) := D2.cell 10
  have d2_11 : wd.cell? ⟨k_, 11, none⟩ = some (.int .u64 ma) := D2.cell 11
  have d2_12 : wd.cell? ⟨k_, 12, none⟩ = some (.int .u64 t) := D2.cell 12
  go_wp2_with fail
  refine bodyPost_ret (v := .tuple #[.agg #[.bool true, .bool true, .int .u64 t, .int .i64 at_, .int .i64 sent, .int .i64 got, .int .u64 re, .int .u64 ma], .agg #[.int .i64 0, .int .i64 4, .int .i64 3, .int .i64 0, .int .i64 6, .int .i64 0, .int .u32 0, .int .u32 0, .int .u32 0, .int .u64 0, .int .u64 re, .int .u64 ma, .int .u64 t], .int .i64 0]) (by simp [results, Try.results6, go_sem, *]) rfl ⟨rfl, RD⟩
set_option maxHeartbeats 400000 in
theorem ticksValid_no (n : Int) (h : n < -1152921504606846976 ∨ -1152921504606846976 ≤ n ∧ 1152921504606846976 < n) (w : World) :
    Calls Try.prog 16 #[.int .i64 n] w fun e w' => e = .returned (.bool false) ∧ w = w' := by
  rcases h with h | ⟨h1, h⟩
  · have hd : decide (n ≤ 1152921504606846976) = true := by simp; omega
    go_enter Try.func16, Try.ntmps16
    go_wp2
    go_ret
    exact ⟨rfl, rfl⟩
  · have h3 : decide (n ≤ 1152921504606846976) = false := by simp; omega
    go_enter Try.func16, Try.ntmps16
    go_wp2
    go_ret
    exact ⟨rfl, rfl⟩
set_option maxRecDepth 100000 in
set_option maxHeartbeats 4000000 in
theorem ilAsk_range (o : Bool) (tr : Nat) (asked sent got : Int) (re ma : Nat) (t : Nat) (at_ : Int) (hr : at_ < -1152921504606846976 ∨ -1152921504606846976 ≤ at_ ∧ 1152921504606846976 < at_) (k : Bool) (w : World) :
    Calls Try.prog 6 #[.agg #[.bool o, .bool k, .int .u64 tr, .int .i64 asked, .int .i64 sent, .int .i64 got, .int .u64 re, .int .u64 ma], .int .u64 t, .int .i64 at_] w fun e w' =>
      e = .returned (.tuple #[.agg #[.bool false, .bool false, .int .u64 0, .int .i64 0, .int .i64 0, .int .i64 0, .int .u64 0, .int .u64 0], .agg #[.int .i64 0, .int .i64 0, .int .i64 0, .int .i64 0, .int .i64 0, .int .i64 0, .int .u32 0, .int .u32 0, .int .u32 0, .int .u64 0, .int .u64 0, .int .u64 0, .int .u64 0], .int .i64 4]) ∧ Below w.heap.size w w' := by
  go_enter Try.func6, Try.ntmps6
  go_upto_region 1 with fail
  obtain ⟨x1, i_, j_, k_, ex1, ei_, ej_, ek_⟩ : ∃ x1 i_ j_ k_, x1 = ((w.alloc (.cells #[.bool o, .bool k, .int .u64 tr, .int .i64 asked, .int .i64 sent, .int .i64 got, .int .u64 re, .int .u64 ma] 27)).alloc (.cells #[.bool false, .bool false, .int .u64 0, .int .i64 0, .int .i64 0, .int .i64 0, .int .u64 0, .int .u64 0] 27)).alloc (.cells #[.int .i64 0, .int .i64 0, .int .i64 0, .int .i64 0, .int .i64 0, .int .i64 0, .int .u32 0, .int .u32 0, .int .u32 0, .int .u64 0, .int .u64 0, .int .u64 0, .int .u64 0] 35) ∧ i_ = w.heap.size ∧ j_ = w.heap.size + 1 ∧ k_ = w.heap.size + 1 + 1 := ⟨_, _, _, _, rfl, rfl, rfl, rfl⟩
  rw [← ex1, ← ek_, ← ej_, ← ei_]
  have hbx : Below w.heap.size w x1 := by rw [ex1]; exact below_alloc3 _ _ _ _ 
  have o_I_J : i_ < j_ := by omega
  have o_J_K : j_ < k_ := by omega
  have g_I : w.heap.size ≤ i_ := by rw [ei_]; exact Nat.le_refl _
  have BI := Lib.hid (show Blk x1 i_ 27 #[.bool o, .bool k, .int .u64 tr, .int .i64 asked, .int .i64 sent, .int .i64 got, .int .u64 re, .int .u64 ma] by rw [ex1, ei_]; exact blk_new3_0 _ _ _ _ _ _ _ )
  have BJ := Lib.hid (show Blk x1 j_ 27 #[.bool false, .bool false, .int .u64 0, .int .i64 0, .int .i64 0, .int .i64 0, .int .u64 0, .int .u64 0] by rw [ex1, ej_]; exact blk_new3_1 _ _ _ _ _ _ _ )
  have BK := Lib.hid (show Blk x1 k_ 35 #[.int .i64 0, .int .i64 0, .int .i64 0, .int .i64 0, .int .i64 0, .int .i64 0, .int .u32 0, .int .u32 0, .int .u32 0, .int .u64 0, .int .u64 0, .int .u64 0, .int .u64 0] by rw [ex1, ek_]; exact blk_new3_2 _ _ _ _ _ _ _ )
  have R2 := Lib.hid hbx
  have hz_x1 := R2.out.size
  clear hbx ex1 ei_ ej_ ek_
  go_wp2_with fail
  refine (ticksValid_no _ hr _).mono ?_
  rintro e q_ ⟨rfl, rfl⟩
  have cJ := BJ.out.cell
  have cK := BK.out.cell
  have zJ := BJ.out.frozen
  have zK := BK.out.frozen
  go_wp2
  clear cJ cK zJ zK
  generalize hwd : World.setCell _ ⟨k_, 12, none⟩ _ = wd
  have hwd2 : stores (stores x1 j_ [.bool false, .bool false, .int .u64 0, .int .i64 0, .int .i64 0, .int .i64 0, .int .u64 0, .int .u64 0] 0) k_ [.int .i64 0, .int .i64 0, .int .i64 0, .int .i64 0, .int .i64 0, .int .i64 0, .int .u32 0, .int .u32 0, .int .u32 0, .int .u64 0, .int .u64 0, .int .u64 0, .int .u64 0] 0 = wd := hwd
  have D1 : Blk wd j_ 27 #[.bool false, .bool false, .int .u64 0, .int .i64 0, .int .i64 0, .int .i64 0, .int .u64 0, .int .u64 0] := by rw [← hwd2]; exact Blk.beside (by omega) _ _ 0 (BJ.out.filled _ rfl)
  have D2 : Blk wd k_ 35 #[.int .i64 0, .int .i64 0, .int .i64 0, .int .i64 0, .int .i64 0, .int .i64 0, .int .u32 0, .int .u32 0, .int .u32 0, .int .u64 0, .int .u64 0, .int .u64 0, .int .u64 0] := by rw [← hwd2]; exact (Blk.beside (by omega) _ _ 0 BK.out).filled _ rfl
  have RD : Below w.heap.size w wd := by rw [← hwd2]; exact Below.stores (by omega) _ _ _ (Below.stores (by omega) _ _ _ R2.out)
  clear hwd hwd2
  have d1_0 : wd.cell? ⟨j_, 0, none⟩ = some (.bool false) := D1.cell 0
  have d1_1 : wd.cell? ⟨j_, 1, none⟩ = some (.bool false) := D1.cell 1
  have d1_2 : wd.cell? ⟨j_, 2, none⟩ = some (.int .u64 0) := D1.cell 2
  have d1_3 : wd.cell? ⟨j_, 3, none⟩ = some (.int .i64 0) := D1.cell 3
  have d1_4 : wd.cell? ⟨j_, 4, none⟩ = some (.int .i64 0) := D1.cell 4
  have d1_5 : wd.cell? ⟨j_, 5, none⟩ = some (.int .i64 0) := D1.cell 5
  have d1_6 : wd.cell? ⟨j_, 6, none⟩ = some (.int .u64 0) := D1.cell 6
  have d1_7 : wd.cell? ⟨j_, 7, none⟩ = some (.int .u64 0) := D1.cell 7
  have d2_0 : wd.cell? ⟨k_, 0, none⟩ = some (.int .i64 0) := D2.cell 0
  have d2_1 : wd.cell? ⟨k_, 1, none⟩ = some (.int .i64 0) := D2.cell 1
  have d2_2 : wd.cell? ⟨k_, 2, none⟩ = some (.int .i64 0) := D2.cell 2
  have d2_3 : wd.cell? ⟨k_, 3, none⟩ = some (.int .i64 0) := D2.cell 3
  have d2_4 : wd.cell? ⟨k_, 4, none⟩ = some (.int .i64 0) := D2.cell 4
  have d2_5 : wd.cell? ⟨k_, 5, none⟩ = some (.int .i64 0) := D2.cell 5
  have d2_6 : wd.cell? ⟨k_, 6, none⟩ = some (.int .u32 0) := D2.cell 6
  have d2_7 : wd.cell? ⟨k_, 7, none⟩ = some (.int .u32 0) := D2.cell 7
  have d2_8 : wd.cell? ⟨k_, 8, none⟩ = some (.int .u32 0) := D2.cell 8
  have d2_9 : wd.cell? ⟨k_, 9, none⟩ = some (.int .u64 0) := D2.cell 9
  have d2_10 : wd.cell? ⟨k_, 10, none⟩ = some (.int .u64 0) := D2.cell 10
  have d2_11 : wd.cell? ⟨k_, 11, none⟩ = some (.int .u64 0) := D2.cell 11
  have d2_12 : wd.cell? ⟨k_, 12, none⟩ = some (.int .u64 0) := D2.cell 12
  refine bodyPost_ret (v := .tuple #[.agg #[.bool false, .bool false, .int .u64 0, .int .i64 0, .int .i64 0, .int .i64 0, .int .u64 0, .int .u64 0], .agg #[.int .i64 0, .int .i64 0, .int .i64 0, .int .i64 0, .int .i64 0, .int .i64 0, .int .u32 0, .int .u32 0, .int .u32 0, .int .u64 0, .int .u64 0, .int .u64 0, .int .u64 0], .int .i64 4]) (by simp [results, Try.results6, go_sem, *]) rfl ⟨rfl, RD⟩
set_option maxRecDepth 100000 in
set_option maxHeartbeats 4000000 in
theorem ilAsk_zero (o : Bool) (tr : Nat) (asked sent got : Int) (re ma : Nat) (t : Nat) (at_ : Int) (h1 : -1152921504606846976 ≤ at_) (h2 : at_ ≤ 1152921504606846976) (ht : t = 0) (k : Bool) (w : World) :
    Calls Try.prog 6 #[.agg #[.bool o, .bool k, .int .u64 tr, .int .i64 asked, .int .i64 sent, .int .i64 got, .int .u64 re, .int .u64 ma], .int .u64 t, .int .i64 at_] w fun e w' =>
      e = .returned (.tuple #[.agg #[.bool false, .bool false, .int .u64 0, .int .i64 0, .int .i64 0, .int .i64 0, .int .u64 0, .int .u64 0], .agg #[.int .i64 0, .int .i64 0, .int .i64 0, .int .i64 0, .int .i64 0, .int .i64 0, .int .u32 0, .int .u32 0, .int .u32 0, .int .u64 0, .int .u64 0, .int .u64 0, .int .u64 0], .int .i64 3]) ∧ Below w.heap.size w w' := by
  subst ht
  go_enter Try.func6, Try.ntmps6
  go_upto_region 1 with fail
  obtain ⟨x1, i_, j_, k_, ex1, ei_, ej_, ek_⟩ : ∃ x1 i_ j_ k_, x1 = ((w.alloc (.cells #[.bool o, .bool k, .int .u64 tr, .int .i64 asked, .int .i64 sent, .int .i64 got, .int .u64 re, .int .u64 ma] 27)).alloc (.cells #[.bool false, .bool false, .int .u64 0, .int .i64 0, .int .i64 0, .int .i64 0, .int .u64 0, .int .u64 0] 27)).alloc (.cells #[.int .i64 0, .int .i64 0, .int .i64 0, .int .i64 0, .int .i64 0, .int .i64 0, .int .u32 0, .int .u32 0, .int .u32 0, .int .u64 0, .int .u64 0, .int .u64 0, .int .u64 0] 35) ∧ i_ = w.heap.size ∧ j_ = w.heap.size + 1 ∧ k_ = w.heap.size + 1 + 1 := ⟨_, _, _, _, rfl, rfl, rfl, rfl⟩
  rw [← ex1, ← ek_, ← ej_, ← ei_]
  have hbx : Below w.heap.size w x1 := by rw [ex1]; exact below_alloc3 _ _ _ _ 
  have o_I_J : i_ < j_ := by omega
  have o_J_K : j_ < k_ := by omega
  have g_I : w.heap.size ≤ i_ := by rw [ei_]; exact Nat.le_refl _
  have BI := Lib.hid (show Blk x1 i_ 27 #[.bool o, .bool k, .int .u64 tr, .int .i64 asked, .int .i64 sent, .int .i64 got, .int .u64 re, .int .u64 ma] by rw [ex1, ei_]; exact blk_new3_0 _ _ _ _ _ _ _ )
  have BJ := Lib.hid (show Blk x1 j_ 27 #[.bool false, .bool false, .int .u64 0, .int .i64 0, .int .i64 0, .int .i64 0, .int .u64 0, .int .u64 0] by rw [ex1, ej_]; exact blk_new3_1 _ _ _ _ _ _ _ )
  have BK := Lib.hid (show Blk x1 k_ 35 #[.int .i64 0, .int .i64 0, .int .i64 0, .int .i64 0, .int .i64 0, .int .i64 0, .int .u32 0, .int .u32 0, .int .u32 0, .int .u64 0, .int .u64 0, .int .u64 0, .int .u64 0] by rw [ex1, ek_]; exact blk_new3_2 _ _ _ _ _ _ _ )
  have R2 := Lib.hid hbx
  have hz_x1 := R2.out.size
  clear hbx ex1 ei_ ej_ ek_
  go_wp2_with fail
  refine (ticksValid_yes _ h1 h2 _).mono ?_
  rintro e q_ ⟨rfl, rfl⟩
  have cJ := BJ.out.cell
  have cK := BK.out.cell
  have zJ := BJ.out.frozen
  have zK := BK.out.frozen
  go_wp2
  clear cJ cK zJ zK
  generalize hwd : World.setCell _ ⟨k_, 12, none⟩ _ = wd
  have hwd2 : stores (stores x1 j_ [.bool false, .bool false, .int .u64 0, .int .i64 0, .int .i64 0, .int .i64 0, .int .u64 0, .int .u64 0] 0) k_ [.int .i64 0, .int .i64 0, .int .i64 0, .int .i64 0, .int .i64 0, .int .i64 0, .int .u32 0, .int .u32 0, .int .u32 0, .int .u64 0, .int .u64 0, .int .u64 0, .int .u64 0] 0 = wd := hwd
  have D1 : Blk wd j_ 27 #[.bool false, .bool false, .int .u64 0, .int .i64 0, .int .i64 0, .int .i64 0, .int .u64 0, .int .u64 0] := by rw [← hwd2]; exact Blk.beside (by omega) _ _ 0 (BJ.out.filled _ rfl)
  have D2 : Blk wd k_ 35 #[.int .i64 0, .int .i64 0, .int .i64 0, .int .i64 0, .int .i64 0, .int .i64 0, .int .u32 0, .int .u32 0, .int .u32 0, .int .u64 0, .int .u64 0, .int .u64 0, .int .u64 0] := by rw [← hwd2]; exact (Blk.beside (by omega) _ _ 0 BK.out).filled _ rfl
  have RD : Below w.heap.size w wd := by rw [← hwd2]; exact Below.stores (by omega) _ _ _ (Below.stores (by omega) _ _ _ R2.out)
  clear hwd hwd2
  have d1_0 : wd.cell? ⟨j_, 0, none⟩ = some (.bool false) := D1.cell 0
  have d1_1 : wd.cell? ⟨j_, 1, none⟩ = some (.bool false) := D1.cell 1
  have d1_2 : wd.cell? ⟨j_, 2, none⟩ = some (.int .u64 0) := D1.cell 2
  have d1_3 : wd.cell? ⟨j_, 3, none⟩ = some (.int .i64 0) := D1.cell 3
  have d1_4 : wd.cell? ⟨j_, 4, none⟩ = some (.int .i64 0) := D1.cell 4
  have d1_5 : wd.cell? ⟨j_, 5, none⟩ = some (.int .i64 0) := D1.cell 5
  have d1_6 : wd.cell? ⟨j_, 6, none⟩ = some (.int .u64 0) := D1.cell 6
  have d1_7 : wd.cell? ⟨j_, 7, none⟩ = some (.int .u64 0) := D1.cell 7
  have d2_0 : wd.cell? ⟨k_, 0, none⟩ = some (.int .i64 0) := D2.cell 0
  have d2_1 : wd.cell? ⟨k_, 1, none⟩ = some (.int .i64 0) := D2.cell 1
  have d2_2 : wd.cell? ⟨k_, 2, none⟩ = some (.int .i64 0) := D2.cell 2
  have d2_3 : wd.cell? ⟨k_, 3, none⟩ = some (.int .i64 0) := D2.cell 3
  have d2_4 : wd.cell? ⟨k_, 4, none⟩ = some (.int .i64 0) := D2.cell 4
  have d2_5 : wd.cell? ⟨k_, 5, none⟩ = some (.int .i64 0) := D2.cell 5
  have d2_6 : wd.cell? ⟨k_, 6, none⟩ = some (.int .u32 0) := D2.cell 6
  have d2_7 : wd.cell? ⟨k_, 7, none⟩ = some (.int .u32 0) := D2.cell 7
  have d2_8 : wd.cell? ⟨k_, 8, none⟩ = some (.int .u32 0) := D2.cell 8
  have d2_9 : wd.cell? ⟨k_, 9, none⟩ = some (.int .u64 0) := D2.cell 9
  have d2_10 : wd.cell? ⟨k_, 10, none⟩ = some (.int .u64 0) := D2.cell 10
  have d2_11 : wd.cell? ⟨k_, 11, none⟩ = some (.int .u64 0) := D2.cell 11
  have d2_12 : wd.cell? ⟨k_, 12, none⟩ = some (.int .u64 0) := D2.cell 12
  refine bodyPost_ret (v := .tuple #[.agg #[.bool false, .bool false, .int .u64 0, .int .i64 0, .int .i64 0, .int .i64 0, .int .u64 0, .int .u64 0], .agg #[.int .i64 0, .int .i64 0, .int .i64 0, .int .i64 0, .int .i64 0, .int .i64 0, .int .u32 0, .int .u32 0, .int .u32 0, .int .u64 0, .int .u64 0, .int .u64 0, .int .u64 0], .int .i64 3]) (by simp [results, Try.results6, go_sem, *]) rfl ⟨rfl, RD⟩
set_option maxRecDepth 100000 in
set_option maxHeartbeats 4000000 in
theorem ilAsk_mark (o : Bool) (tr : Nat) (asked sent got : Int) (re ma : Nat) (t : Nat) (at_ : Int) (h1 : -1152921504606846976 ≤ at_) (h2 : at_ ≤ 1152921504606846976) (ht : ¬ t = 0) (hm : t = ma) (w : World) :
    Calls Try.prog 6 #[.agg #[.bool o, .bool true, .int .u64 tr, .int .i64 asked, .int .i64 sent, .int .i64 got, .int .u64 re, .int .u64 ma], .int .u64 t, .int .i64 at_] w fun e w' =>
      e = .returned (.tuple #[.agg #[.bool false, .bool false, .int .u64 0, .int .i64 0, .int .i64 0, .int .i64 0, .int .u64 0, .int .u64 0], .agg #[.int .i64 0, .int .i64 0, .int .i64 0, .int .i64 0, .int .i64 0, .int .i64 0, .int .u32 0, .int .u32 0, .int .u32 0, .int .u64 0, .int .u64 0, .int .u64 0, .int .u64 0], .int .i64 3]) ∧ Below w.heap.size w w' := by
  have hm2 : (t : Int) = (ma : Int) := by omega
  have hmd : ((t : Int) == (ma : Int)) = true := by simpa using hm2
  clear hm hm2
  have ht2 : ¬ (t : Int) = 0 := by omega
  have htd : ((t : Int) == 0) = false := by simpa using ht2
  go_enter Try.func6, Try.ntmps6
  go_upto_region 1 with fail
  obtain ⟨x1, i_, j_, k_, ex1, ei_, ej_, ek_⟩ : ∃ x1 i_ j_ k_, x1 = ((w.alloc (.cells #[.bool o, .bool true, .int .u64 tr, .int .i64 asked, .int .i64 sent, .int .i64 got, .int .u64 re, .int .u64 ma] 27)).alloc (.cells #[.bool false, .bool false, .int .u64 0, .int .i64 0, .int .i64 0, .int .i64 0, .int .u64 0, .int .u64 0] 27)).alloc (.cells #[.int .i64 0, .int .i64 0, .int .i64 0, .int .i64 0, .int .i64 0, .int .i64 0, .int .u32 0, .int .u32 0, .int .u32 0, .int .u64 0, .int .u64 0, .int .u64 0, .int .u64 0] 35) ∧ i_ = w.heap.size ∧ j_ = w.heap.size + 1 ∧ k_ = w.heap.size + 1 + 1 := ⟨_, _, _, _, rfl, rfl, rfl, rfl⟩
  rw [← ex1, ← ek_, ← ej_, ← ei_]
  have hbx : Below w.heap.size w x1 := by rw [ex1]; exact below_alloc3 _ _ _ _ 
  have o_I_J : i_ < j_ := by omega
  have o_J_K : j_ < k_ := by omega
  have g_I : w.heap.size ≤ i_ := by rw [ei_]; exact Nat.le_refl _
  have BI := Lib.hid (show Blk x1 i_ 27 #[.bool o, .bool true, .int .u64 tr, .int .i64 asked, .int .i64 sent, .int .i64 got, .int .u64 re, .int .u64 ma] by rw [ex1, ei_]; exact blk_new3_0 _ _ _ _ _ _ _ )
  have BJ := Lib.hid (show Blk x1 j_ 27 #[.bool false, .bool false, .int .u64 0, .int .i64 0, .int .i64 0, .int .i64 0, .int .u64 0, .int .u64 0] by rw [ex1, ej_]; exact blk_new3_1 _ _ _ _ _ _ _ )
  have BK := Lib.hid (show Blk x1 k_ 35 #[.int .i64 0, .int .i64 0, .int .i64 0, .int .i64 0, .int .i64 0, .int .i64 0, .int .u32 0, .int .u32 0, .int .u32 0, .int .u64 0, .int .u64 0, .int .u64 0, .int .u64 0] by rw [ex1, ek_]; exact blk_new3_2 _ _ _ _ _ _ _ )
  have R2 := Lib.hid hbx
  have hz_x1 := R2.out.size
  clear hbx ex1 ei_ ej_ ek_
  go_wp2_with fail
  refine (ticksValid_yes _ h1 h2 _).mono ?_
  rintro e q_ ⟨rfl, rfl⟩
  have kI_1 : x1.cell? ⟨i_, 1, none⟩ = some (.bool true) := BI.out.cell 1
  have kI_7 : x1.cell? ⟨i_, 7, none⟩ = some (.int .u64 ma) := BI.out.cell 7
  have cJ := BJ.out.cell
  have cK := BK.out.cell
  have zJ := BJ.out.frozen
  have zK := BK.out.frozen
  go_wp2
  clear kI_1 kI_7 cJ cK zJ zK
  generalize hwd : World.setCell _ ⟨k_, 12, none⟩ _ = wd
  have hwd2 : stores (stores x1 j_ [.bool false, .bool false, .int .u64 0, .int .i64 0, .int .i64 0, .int .i64 0, .int .u64 0, .int .u64 0] 0) k_ [.int .i64 0, .int .i64 0, .int .i64 0, .int .i64 0, .int .i64 0, .int .i64 0, .int .u32 0, .int .u32 0, .int .u32 0, .int .u64 0, .int .u64 0, .int .u64 0, .int .u64 0] 0 = wd := hwd
  have D1 : Blk wd j_ 27 #[.bool false, .bool false, .int .u64 0, .int .i64 0, .int .i64 0, .int .i64 0, .int .u64 0, .int .u64 0] := by rw [← hwd2]; exact Blk.beside (by omega) _ _ 0 (BJ.out.filled _ rfl)
  have D2 : Blk wd k_ 35 #[.int .i64 0, .int .i64 0, .int .i64 0, .int .i64 0, .int .i64 0, .int .i64 0, .int .u32 0, .int .u32 0, .int .u32 0, .int .u64 0, .int .u64 0, .int .u64 0, .int .u64 0] := by rw [← hwd2]; exact (Blk.beside (by omega) _ _ 0 BK.out).filled _ rfl
  have RD : Below w.heap.size w wd := by rw [← hwd2]; exact Below.stores (by omega) _ _ _ (Below.stores (by omega) _ _ _ R2.out)
  clear hwd hwd2
  have d1_0 : wd.cell? ⟨j_, 0, none⟩ = some (.bool false) := D1.cell 0
  have d1_1 : wd.cell? ⟨j_, 1, none⟩ = some (.bool false) := D1.cell 1
  have d1_2 : wd.cell? ⟨j_, 2, none⟩ = some (.int .u64 0) := D1.cell 2
  have d1_3 : wd.cell? ⟨j_, 3, none⟩ = some (.int .i64 0) := D1.cell 3
  have d1_4 : wd.cell? ⟨j_, 4, none⟩ = some (.int .i64 0) := D1.cell 4
  have d1_5 : wd.cell? ⟨j_, 5, none⟩ = some (.int .i64 0) := D1.cell 5
  have d1_6 : wd.cell? ⟨j_, 6, none⟩ = some (.int .u64 0) := D1.cell 6
  have d1_7 : wd.cell? ⟨j_, 7, none⟩ = some (.int .u64 0) := D1.cell 7
  have d2_0 : wd.cell? ⟨k_, 0, none⟩ = some (.int .i64 0) := D2.cell 0
  have d2_1 : wd.cell? ⟨k_, 1, none⟩ = some (.int .i64 0) := D2.cell 1
  have d2_2 : wd.cell? ⟨k_, 2, none⟩ = some (.int .i64 0) := D2.cell 2
  have d2_3 : wd.cell? ⟨k_, 3, none⟩ = some (.int .i64 0) := D2.cell 3
  have d2_4 : wd.cell? ⟨k_, 4, none⟩ = some (.int .i64 0) := D2.cell 4
  have d2_5 : wd.cell? ⟨k_, 5, none⟩ = some (.int .i64 0) := D2.cell 5
  have d2_6 : wd.cell? ⟨k_, 6, none⟩ = some (.int .u32 0) := D2.cell 6
  have d2_7 : wd.cell? ⟨k_, 7, none⟩ = some (.int .u32 0) := D2.cell 7
  have d2_8 : wd.cell? ⟨k_, 8, none⟩ = some (.int .u32 0) := D2.cell 8
  have d2_9 : wd.cell? ⟨k_, 9, none⟩ = some (.int .u64 0) := D2.cell 9
  have d2_10 : wd.cell? ⟨k_, 10, none⟩ = some (.int .u64 0) := D2.cell 10
  have d2_11 : wd.cell? ⟨k_, 11, none⟩ = some (.int .u64 0) := D2.cell 11
  have d2_12 : wd.cell? ⟨k_, 12, none⟩ = some (.int .u64 0) := D2.cell 12
  refine bodyPost_ret (v := .tuple #[.agg #[.bool false, .bool false, .int .u64 0, .int .i64 0, .int .i64 0, .int .i64 0, .int .u64 0, .int .u64 0], .agg #[.int .i64 0, .int .i64 0, .int .i64 0, .int .i64 0, .int .i64 0, .int .i64 0, .int .u32 0, .int .u32 0, .int .u32 0, .int .u64 0, .int .u64 0, .int .u64 0, .int .u64 0], .int .i64 3]) (by simp [results, Try.results6, go_sem, *]) rfl ⟨rfl, RD⟩
end Go.Proofs.Ytfkckokaclkjnaa
