/- The walk of InterleaveQuestionsSayNothing. -/
import Derived.Test.YtnpfndlmbaafaaaIlK
import Derived.Test.YtnpfndlmbaafaaaPkP
import Derived.Test.YtnpfndlmbaafaaaSame
namespace Go.Proofs.Ytnpfndlmbaafaaa
open Go.RowKit

set_option maxRecDepth 100000 in
set_option maxHeartbeats 4000000 in
theorem qs_range (o k : Bool) (tr : Nat) (asked sent got : Int) (re ma : Nat) (t : Nat) (at_ : Int) (hr : at_ < -1152921504606846976 ∨ -1152921504606846976 ≤ at_ ∧ 1152921504606846976 < at_) (w : World) :
    Calls Try.prog 10 #[.agg #[.bool o, .bool k, .int .u64 tr, .int .i64 asked, .int .i64 sent, .int .i64 got, .int .u64 re, .int .u64 ma], .int .u64 t, .int .i64 at_] w fun e w' => e = .returned (.bool true) ∧ Below w.heap.size w w' := by
  go_enter Try.func10, Try.ntmps10
  go_upto_region 1 with fail
  obtain ⟨x1, i_, ex1, ei_⟩ : ∃ x1 i_, x1 = w.alloc (.cells #[.bool o, .bool k, .int .u64 tr, .int .i64 asked, .int .i64 sent, .int .i64 got, .int .u64 re, .int .u64 ma] 61) ∧ i_ = w.heap.size := ⟨_, _, rfl, rfl⟩
  rw [← ex1, ← ei_]
  have hbx : Below w.heap.size w x1 := by rw [ex1]; exact below_alloc1 _ _ 
  have g_I : w.heap.size ≤ i_ := by rw [ei_]; exact Nat.le_refl _
  have BI := Lib.hid (show Blk x1 i_ 61 #[.bool o, .bool k, .int .u64 tr, .int .i64 asked, .int .i64 sent, .int .i64 got, .int .u64 re, .int .u64 ma] by rw [ex1, ei_]; exact blk_new1_0 _ _ _ )
  have R2 := Lib.hid hbx
  have hz_x1 := R2.out.size
  clear hbx ex1 ei_
  have kI_0 : x1.cell? ⟨i_, 0, none⟩ = some (.bool o) := BI.out.cell 0
  have kI_1 : x1.cell? ⟨i_, 1, none⟩ = some (.bool k) := BI.out.cell 1
  have kI_2 : x1.cell? ⟨i_, 2, none⟩ = some (.int .u64 tr) := BI.out.cell 2
  have kI_3 : x1.cell? ⟨i_, 3, none⟩ = some (.int .i64 asked) := BI.out.cell 3
  have kI_4 : x1.cell? ⟨i_, 4, none⟩ = some (.int .i64 sent) := BI.out.cell 4
  have kI_5 : x1.cell? ⟨i_, 5, none⟩ = some (.int .i64 got) := BI.out.cell 5
  have kI_6 : x1.cell? ⟨i_, 6, none⟩ = some (.int .u64 re) := BI.out.cell 6
  have kI_7 : x1.cell? ⟨i_, 7, none⟩ = some (.int .u64 ma) := BI.out.cell 7
  go_wp2_with fail
  refine (ilAsk_range o tr asked sent got re ma t at_ hr k _).mono ?_
  rintro e y3 ⟨rfl, hb⟩
  clear kI_0 kI_1 kI_2 kI_3 kI_4 kI_5 kI_6 kI_7
  have hbx : Below x1.heap.size x1 y3 := below_via (by go_grown) hb (by first | (simp; done) | (simp; omega))
  have BI := Lib.hid (BI.out.stays hbx)
  have R4 := Lib.hid (R2.out.trans (hbx.mono hz_x1))
  have hz_y3 := R4.out.size
  clear hb hbx  R2 hz_x1
  go_upto_region 2 with fail
  obtain ⟨x5, j_, h_, ex5, ej_, eh_⟩ : ∃ x5 j_ h_, x5 = (y3.alloc (.cells #[.bool false, .bool false, .int .u64 0, .int .i64 0, .int .i64 0, .int .i64 0, .int .u64 0, .int .u64 0] 61)).alloc (.cells #[.int .i64 0, .int .i64 0, .int .i64 0, .int .i64 0, .int .i64 0, .int .i64 0, .int .u32 0, .int .u32 0, .int .u32 0, .int .u64 0, .int .u64 0, .int .u64 0, .int .u64 0] 25) ∧ j_ = y3.heap.size ∧ h_ = y3.heap.size + 1 := ⟨_, _, _, rfl, rfl, rfl⟩
  rw [← ex5, ← eh_, ← ej_]
  have hbx : Below y3.heap.size y3 x5 := by rw [ex5]; exact below_alloc2 _ _ _ 
  have o_I_J : i_ < j_ := by rw [ej_]; exact BI.out.lt
  have o_J_H : j_ < h_ := by omega
  have g_J : w.heap.size ≤ j_ := by rw [ej_]; exact hz_y3
  have BI := Lib.hid (BI.out.stays hbx)
  have BJ := Lib.hid (show Blk x5 j_ 61 #[.bool false, .bool false, .int .u64 0, .int .i64 0, .int .i64 0, .int .i64 0, .int .u64 0, .int .u64 0] by rw [ex5, ej_]; exact blk_new2_0 _ _ _ _ _ )
  have BH := Lib.hid (show Blk x5 h_ 25 #[.int .i64 0, .int .i64 0, .int .i64 0, .int .i64 0, .int .i64 0, .int .i64 0, .int .u32 0, .int .u32 0, .int .u32 0, .int .u64 0, .int .u64 0, .int .u64 0, .int .u64 0] by rw [ex5, eh_]; exact blk_new2_1 _ _ _ _ _ )
  have R6 := Lib.hid (R4.out.trans (hbx.mono hz_y3))
  have hz_x5 := R6.out.size
  clear hbx ex5 ej_ eh_ R4 hz_y3
  go_wp2_with fail
  refine (ilKnown _).mono ?_
  rintro e y7 ⟨rfl, hb⟩
  have hbx : Below x5.heap.size x5 y7 := below_via (by go_grown) hb (by first | (simp; done) | (simp; omega))
  have BI := Lib.hid (BI.out.stays hbx)
  have BJ := Lib.hid (BJ.out.stays hbx)
  have BH := Lib.hid (BH.out.stays hbx)
  have R8 := Lib.hid (R6.out.trans (hbx.mono hz_x5))
  have hz_y7 := R8.out.size
  clear hb hbx  R6 hz_x5
  go_wp2
  go_ret
  exact ⟨rfl, R8.out⟩
set_option maxRecDepth 100000 in
set_option maxHeartbeats 4000000 in
theorem qs_zero (o k : Bool) (tr : Nat) (asked sent got : Int) (re ma : Nat) (t : Nat) (at_ : Int) (h1 : -1152921504606846976 ≤ at_) (h2 : at_ ≤ 1152921504606846976) (ht : t = 0) (w : World) :
    Calls Try.prog 10 #[.agg #[.bool o, .bool k, .int .u64 tr, .int .i64 asked, .int .i64 sent, .int .i64 got, .int .u64 re, .int .u64 ma], .int .u64 t, .int .i64 at_] w fun e w' => e = .returned (.bool true) ∧ Below w.heap.size w w' := by
  have HT := Lib.hid ht
  clear ht
  go_enter Try.func10, Try.ntmps10
  go_upto_region 1 with fail
  obtain ⟨x1, i_, ex1, ei_⟩ : ∃ x1 i_, x1 = w.alloc (.cells #[.bool o, .bool k, .int .u64 tr, .int .i64 asked, .int .i64 sent, .int .i64 got, .int .u64 re, .int .u64 ma] 61) ∧ i_ = w.heap.size := ⟨_, _, rfl, rfl⟩
  rw [← ex1, ← ei_]
  have hbx : Below w.heap.size w x1 := by rw [ex1]; exact below_alloc1 _ _ 
  have g_I : w.heap.size ≤ i_ := by rw [ei_]; exact Nat.le_refl _
  have BI := Lib.hid (show Blk x1 i_ 61 #[.bool o, .bool k, .int .u64 tr, .int .i64 asked, .int .i64 sent, .int .i64 got, .int .u64 re, .int .u64 ma] by rw [ex1, ei_]; exact blk_new1_0 _ _ _ )
  have R2 := Lib.hid hbx
  have hz_x1 := R2.out.size
  clear hbx ex1 ei_
  have kI_0 : x1.cell? ⟨i_, 0, none⟩ = some (.bool o) := BI.out.cell 0
  have kI_1 : x1.cell? ⟨i_, 1, none⟩ = some (.bool k) := BI.out.cell 1
  have kI_2 : x1.cell? ⟨i_, 2, none⟩ = some (.int .u64 tr) := BI.out.cell 2
  have kI_3 : x1.cell? ⟨i_, 3, none⟩ = some (.int .i64 asked) := BI.out.cell 3
  have kI_4 : x1.cell? ⟨i_, 4, none⟩ = some (.int .i64 sent) := BI.out.cell 4
  have kI_5 : x1.cell? ⟨i_, 5, none⟩ = some (.int .i64 got) := BI.out.cell 5
  have kI_6 : x1.cell? ⟨i_, 6, none⟩ = some (.int .u64 re) := BI.out.cell 6
  have kI_7 : x1.cell? ⟨i_, 7, none⟩ = some (.int .u64 ma) := BI.out.cell 7
  go_wp2_with fail
  refine (ilAsk_zero o tr asked sent got re ma t at_ h1 h2 HT.out k _).mono ?_
  rintro e y3 ⟨rfl, hb⟩
  clear kI_0 kI_1 kI_2 kI_3 kI_4 kI_5 kI_6 kI_7
  have hbx : Below x1.heap.size x1 y3 := below_via (by go_grown) hb (by first | (simp; done) | (simp; omega))
  have BI := Lib.hid (BI.out.stays hbx)
  have R4 := Lib.hid (R2.out.trans (hbx.mono hz_x1))
  have hz_y3 := R4.out.size
  clear hb hbx  R2 hz_x1
  go_upto_region 2 with fail
  obtain ⟨x5, j_, h_, ex5, ej_, eh_⟩ : ∃ x5 j_ h_, x5 = (y3.alloc (.cells #[.bool false, .bool false, .int .u64 0, .int .i64 0, .int .i64 0, .int .i64 0, .int .u64 0, .int .u64 0] 61)).alloc (.cells #[.int .i64 0, .int .i64 0, .int .i64 0, .int .i64 0, .int .i64 0, .int .i64 0, .int .u32 0, .int .u32 0, .int .u32 0, .int .u64 0, .int .u64 0, .int .u64 0, .int .u64 0] 25) ∧ j_ = y3.heap.size ∧ h_ = y3.heap.size + 1 := ⟨_, _, _, rfl, rfl, rfl⟩
  rw [← ex5, ← eh_, ← ej_]
  have hbx : Below y3.heap.size y3 x5 := by rw [ex5]; exact below_alloc2 _ _ _ 
  have o_I_J : i_ < j_ := by rw [ej_]; exact BI.out.lt
  have o_J_H : j_ < h_ := by omega
  have g_J : w.heap.size ≤ j_ := by rw [ej_]; exact hz_y3
  have BI := Lib.hid (BI.out.stays hbx)
  have BJ := Lib.hid (show Blk x5 j_ 61 #[.bool false, .bool false, .int .u64 0, .int .i64 0, .int .i64 0, .int .i64 0, .int .u64 0, .int .u64 0] by rw [ex5, ej_]; exact blk_new2_0 _ _ _ _ _ )
  have BH := Lib.hid (show Blk x5 h_ 25 #[.int .i64 0, .int .i64 0, .int .i64 0, .int .i64 0, .int .i64 0, .int .i64 0, .int .u32 0, .int .u32 0, .int .u32 0, .int .u64 0, .int .u64 0, .int .u64 0, .int .u64 0] by rw [ex5, eh_]; exact blk_new2_1 _ _ _ _ _ )
  have R6 := Lib.hid (R4.out.trans (hbx.mono hz_y3))
  have hz_x5 := R6.out.size
  clear hbx ex5 ej_ eh_ R4 hz_y3
  go_wp2_with fail
  refine (ilKnown _).mono ?_
  rintro e y7 ⟨rfl, hb⟩
  have hbx : Below x5.heap.size x5 y7 := below_via (by go_grown) hb (by first | (simp; done) | (simp; omega))
  have BI := Lib.hid (BI.out.stays hbx)
  have BJ := Lib.hid (BJ.out.stays hbx)
  have BH := Lib.hid (BH.out.stays hbx)
  have R8 := Lib.hid (R6.out.trans (hbx.mono hz_x5))
  have hz_y7 := R8.out.size
  clear hb hbx  R6 hz_x5
  go_wp2
  go_ret
  exact ⟨rfl, R8.out⟩
set_option maxRecDepth 100000 in
set_option maxHeartbeats 4000000 in
theorem qs_mark (o : Bool) (tr : Nat) (asked sent got : Int) (re ma : Nat) (t : Nat) (at_ : Int) (h1 : -1152921504606846976 ≤ at_) (h2 : at_ ≤ 1152921504606846976) (ht : ¬ t = 0) (hm : t = ma) (w : World) :
    Calls Try.prog 10 #[.agg #[.bool o, .bool true, .int .u64 tr, .int .i64 asked, .int .i64 sent, .int .i64 got, .int .u64 re, .int .u64 ma], .int .u64 t, .int .i64 at_] w fun e w' => e = .returned (.bool true) ∧ Below w.heap.size w w' := by
  have HM := Lib.hid hm
  clear hm
  go_enter Try.func10, Try.ntmps10
  go_upto_region 1 with fail
  obtain ⟨x1, i_, ex1, ei_⟩ : ∃ x1 i_, x1 = w.alloc (.cells #[.bool o, .bool true, .int .u64 tr, .int .i64 asked, .int .i64 sent, .int .i64 got, .int .u64 re, .int .u64 ma] 61) ∧ i_ = w.heap.size := ⟨_, _, rfl, rfl⟩
  rw [← ex1, ← ei_]
  have hbx : Below w.heap.size w x1 := by rw [ex1]; exact below_alloc1 _ _ 
  have g_I : w.heap.size ≤ i_ := by rw [ei_]; exact Nat.le_refl _
  have BI := Lib.hid (show Blk x1 i_ 61 #[.bool o, .bool true, .int .u64 tr, .int .i64 asked, .int .i64 sent, .int .i64 got, .int .u64 re, .int .u64 ma] by rw [ex1, ei_]; exact blk_new1_0 _ _ _ )
  have R2 := Lib.hid hbx
  have hz_x1 := R2.out.size
  clear hbx ex1 ei_
  have kI_0 : x1.cell? ⟨i_, 0, none⟩ = some (.bool o) := BI.out.cell 0
  have kI_1 : x1.cell? ⟨i_, 1, none⟩ = some (.bool true) := BI.out.cell 1
  have kI_2 : x1.cell? ⟨i_, 2, none⟩ = some (.int .u64 tr) := BI.out.cell 2
  have kI_3 : x1.cell? ⟨i_, 3, none⟩ = some (.int .i64 asked) := BI.out.cell 3
  have kI_4 : x1.cell? ⟨i_, 4, none⟩ = some (.int .i64 sent) := BI.out.cell 4
  have kI_5 : x1.cell? ⟨i_, 5, none⟩ = some (.int .i64 got) := BI.out.cell 5
  have kI_6 : x1.cell? ⟨i_, 6, none⟩ = some (.int .u64 re) := BI.out.cell 6
  have kI_7 : x1.cell? ⟨i_, 7, none⟩ = some (.int .u64 ma) := BI.out.cell 7
  go_wp2_with fail
  refine (ilAsk_mark o tr asked sent got re ma t at_ h1 h2 ht HM.out _).mono ?_
  rintro e y3 ⟨rfl, hb⟩
  clear kI_0 kI_1 kI_2 kI_3 kI_4 kI_5 kI_6 kI_7
  have hbx : Below x1.heap.size x1 y3 := below_via (by go_grown) hb (by first | (simp; done) | (simp; omega))
  have BI := Lib.hid (BI.out.stays hbx)
  have R4 := Lib.hid (R2.out.trans (hbx.mono hz_x1))
  have hz_y3 := R4.out.size
  clear hb hbx  R2 hz_x1
  go_upto_region 2 with fail
  obtain ⟨x5, j_, h_, ex5, ej_, eh_⟩ : ∃ x5 j_ h_, x5 = (y3.alloc (.cells #[.bool false, .bool false, .int .u64 0, .int .i64 0, .int .i64 0, .int .i64 0, .int .u64 0, .int .u64 0] 61)).alloc (.cells #[.int .i64 0, .int .i64 0, .int .i64 0, .int .i64 0, .int .i64 0, .int .i64 0, .int .u32 0, .int .u32 0, .int .u32 0, .int .u64 0, .int .u64 0, .int .u64 0, .int .u64 0] 25) ∧ j_ = y3.heap.size ∧ h_ = y3.heap.size + 1 := ⟨_, _, _, rfl, rfl, rfl⟩
  rw [← ex5, ← eh_, ← ej_]
  have hbx : Below y3.heap.size y3 x5 := by rw [ex5]; exact below_alloc2 _ _ _ 
  have o_I_J : i_ < j_ := by rw [ej_]; exact BI.out.lt
  have o_J_H : j_ < h_ := by omega
  have g_J : w.heap.size ≤ j_ := by rw [ej_]; exact hz_y3
  have BI := Lib.hid (BI.out.stays hbx)
  have BJ := Lib.hid (show Blk x5 j_ 61 #[.bool false, .bool false, .int .u64 0, .int .i64 0, .int .i64 0, .int .i64 0, .int .u64 0, .int .u64 0] by rw [ex5, ej_]; exact blk_new2_0 _ _ _ _ _ )
  have BH := Lib.hid (show Blk x5 h_ 25 #[.int .i64 0, .int .i64 0, .int .i64 0, .int .i64 0, .int .i64 0, .int .i64 0, .int .u32 0, .int .u32 0, .int .u32 0, .int .u64 0, .int .u64 0, .int .u64 0, .int .u64 0] by rw [ex5, eh_]; exact blk_new2_1 _ _ _ _ _ )
  have R6 := Lib.hid (R4.out.trans (hbx.mono hz_y3))
  have hz_x5 := R6.out.size
  clear hbx ex5 ej_ eh_ R4 hz_y3
  go_wp2_with fail
  refine (ilKnown _).mono ?_
  rintro e y7 ⟨rfl, hb⟩
  have hbx : Below x5.heap.size x5 y7 := below_via (by go_grown) hb (by first | (simp; done) | (simp; omega))
  have BI := Lib.hid (BI.out.stays hbx)
  have BJ := Lib.hid (BJ.out.stays hbx)
  have BH := Lib.hid (BH.out.stays hbx)
  have R8 := Lib.hid (R6.out.trans (hbx.mono hz_x5))
  have hz_y7 := R8.out.size
  clear hb hbx  R6 hz_x5
  go_wp2
  go_ret
  exact ⟨rfl, R8.out⟩
set_option maxRecDepth 100000 in
set_option maxHeartbeats 4000000 in
theorem qs_fresh (o : Bool) (tr : Nat) (asked sent got : Int) (re ma : Nat) (t : Nat) (at_ : Int) (h1 : -1152921504606846976 ≤ at_) (h2 : at_ ≤ 1152921504606846976) (ht : ¬ t = 0) (w : World) :
    Calls Try.prog 10 #[.agg #[.bool o, .bool false, .int .u64 tr, .int .i64 asked, .int .i64 sent, .int .i64 got, .int .u64 re, .int .u64 ma], .int .u64 t, .int .i64 at_] w fun e w' => e = .returned (.bool true) ∧ Below w.heap.size w w' := by
  go_enter Try.func10, Try.ntmps10
  go_upto_region 1 with fail
  obtain ⟨x1, i_, ex1, ei_⟩ : ∃ x1 i_, x1 = w.alloc (.cells #[.bool o, .bool false, .int .u64 tr, .int .i64 asked, .int .i64 sent, .int .i64 got, .int .u64 re, .int .u64 ma] 61) ∧ i_ = w.heap.size := ⟨_, _, rfl, rfl⟩
  rw [← ex1, ← ei_]
  have hbx : Below w.heap.size w x1 := by rw [ex1]; exact below_alloc1 _ _ 
  have g_I : w.heap.size ≤ i_ := by rw [ei_]; exact Nat.le_refl _
  have BI := Lib.hid (show Blk x1 i_ 61 #[.bool o, .bool false, .int .u64 tr, .int .i64 asked, .int .i64 sent, .int .i64 got, .int .u64 re, .int .u64 ma] by rw [ex1, ei_]; exact blk_new1_0 _ _ _ )
  have R2 := Lib.hid hbx
  have hz_x1 := R2.out.size
  clear hbx ex1 ei_
  have kI_0 : x1.cell? ⟨i_, 0, none⟩ = some (.bool o) := BI.out.cell 0
  have kI_1 : x1.cell? ⟨i_, 1, none⟩ = some (.bool false) := BI.out.cell 1
  have kI_2 : x1.cell? ⟨i_, 2, none⟩ = some (.int .u64 tr) := BI.out.cell 2
  have kI_3 : x1.cell? ⟨i_, 3, none⟩ = some (.int .i64 asked) := BI.out.cell 3
  have kI_4 : x1.cell? ⟨i_, 4, none⟩ = some (.int .i64 sent) := BI.out.cell 4
  have kI_5 : x1.cell? ⟨i_, 5, none⟩ = some (.int .i64 got) := BI.out.cell 5
  have kI_6 : x1.cell? ⟨i_, 6, none⟩ = some (.int .u64 re) := BI.out.cell 6
  have kI_7 : x1.cell? ⟨i_, 7, none⟩ = some (.int .u64 ma) := BI.out.cell 7
  go_wp2_with fail
  refine (ilAsk_fresh o tr asked sent got re ma t at_ h1 h2 ht _).mono ?_
  rintro e y3 ⟨rfl, hb⟩
  clear kI_0 kI_1 kI_2 kI_3 kI_4 kI_5 kI_6 kI_7
  have hbx : Below x1.heap.size x1 y3 := below_via (by go_grown) hb (by first | (simp; done) | (simp; omega))
  have BI := Lib.hid (BI.out.stays hbx)
  have R4 := Lib.hid (R2.out.trans (hbx.mono hz_x1))
  have hz_y3 := R4.out.size
  clear hb hbx  R2 hz_x1
  go_upto_region 2 with fail
  obtain ⟨x5, j_, h_, ex5, ej_, eh_⟩ : ∃ x5 j_ h_, x5 = (y3.alloc (.cells #[.bool true, .bool false, .int .u64 t, .int .i64 at_, .int .i64 sent, .int .i64 got, .int .u64 re, .int .u64 ma] 61)).alloc (.cells #[.int .i64 0, .int .i64 4, .int .i64 3, .int .i64 0, .int .i64 6, .int .i64 0, .int .u32 0, .int .u32 0, .int .u32 0, .int .u64 0, .int .u64 0, .int .u64 0, .int .u64 t] 25) ∧ j_ = y3.heap.size ∧ h_ = y3.heap.size + 1 := ⟨_, _, _, rfl, rfl, rfl⟩
  rw [← ex5, ← eh_, ← ej_]
  have hbx : Below y3.heap.size y3 x5 := by rw [ex5]; exact below_alloc2 _ _ _ 
  have o_I_J : i_ < j_ := by rw [ej_]; exact BI.out.lt
  have o_J_H : j_ < h_ := by omega
  have g_J : w.heap.size ≤ j_ := by rw [ej_]; exact hz_y3
  have BI := Lib.hid (BI.out.stays hbx)
  have BJ := Lib.hid (show Blk x5 j_ 61 #[.bool true, .bool false, .int .u64 t, .int .i64 at_, .int .i64 sent, .int .i64 got, .int .u64 re, .int .u64 ma] by rw [ex5, ej_]; exact blk_new2_0 _ _ _ _ _ )
  have BH := Lib.hid (show Blk x5 h_ 25 #[.int .i64 0, .int .i64 4, .int .i64 3, .int .i64 0, .int .i64 6, .int .i64 0, .int .u32 0, .int .u32 0, .int .u32 0, .int .u64 0, .int .u64 0, .int .u64 0, .int .u64 t] by rw [ex5, eh_]; exact blk_new2_1 _ _ _ _ _ )
  have R6 := Lib.hid (R4.out.trans (hbx.mono hz_y3))
  have hz_x5 := R6.out.size
  clear hbx ex5 ej_ eh_ R4 hz_y3
  have kH_10 : x5.cell? ⟨h_, 10, none⟩ = some (.int .u64 0) := BH.out.cell 10
  have kH_11 : x5.cell? ⟨h_, 11, none⟩ = some (.int .u64 0) := BH.out.cell 11
  have kH_12 : x5.cell? ⟨h_, 12, none⟩ = some (.int .u64 t) := BH.out.cell 12
  have fH_10 := BH.out.frozen 10
  have fH_11 := BH.out.frozen 11
  have fH_12 := BH.out.frozen 12
  go_upto_region 5 with fail
  clear kH_10 kH_11 kH_12 fH_10 fH_11 fH_12
  obtain ⟨x7, ex7⟩ : ∃ x7, x7 = ((x5.setCell ⟨h_, 12, none⟩ (.int .u64 0)).setCell ⟨h_, 10, none⟩ (.int .u64 0)).setCell ⟨h_, 11, none⟩ (.int .u64 0) := ⟨_, rfl⟩
  rw [← ex7]
  have BI := Lib.hid (show Blk x7 i_ 61 #[.bool o, .bool false, .int .u64 tr, .int .i64 asked, .int .i64 sent, .int .i64 got, .int .u64 re, .int .u64 ma] from by rw [ex7]; exact (((BI.out.far (p := ⟨h_, 12, none⟩) (by simp only []; omega) _).far (p := ⟨h_, 10, none⟩) (by simp only []; omega) _).far (p := ⟨h_, 11, none⟩) (by simp only []; omega) _))
  have BJ := Lib.hid (show Blk x7 j_ 61 #[.bool true, .bool false, .int .u64 t, .int .i64 at_, .int .i64 sent, .int .i64 got, .int .u64 re, .int .u64 ma] from by rw [ex7]; exact (((BJ.out.far (p := ⟨h_, 12, none⟩) (by simp only []; omega) _).far (p := ⟨h_, 10, none⟩) (by simp only []; omega) _).far (p := ⟨h_, 11, none⟩) (by simp only []; omega) _))
  have BH := Lib.hid (show Blk x7 h_ 25 #[.int .i64 0, .int .i64 4, .int .i64 3, .int .i64 0, .int .i64 6, .int .i64 0, .int .u32 0, .int .u32 0, .int .u32 0, .int .u64 0, .int .u64 0, .int .u64 0, .int .u64 0] from by rw [ex7]; exact (((BH.out.put 12 _).put 10 _).put 11 _))
  have R8 := Lib.hid (show Below w.heap.size w x7 from by rw [ex7]; exact (((R6.out.setCell (p := ⟨h_, 12, none⟩) (by simp only []; omega) _).setCell (p := ⟨h_, 10, none⟩) (by simp only []; omega) _).setCell (p := ⟨h_, 11, none⟩) (by simp only []; omega) _))
  have hz_x7 := R8.out.size
  clear R6 hz_x5
  clear ex7
  have kH_0 : x7.cell? ⟨h_, 0, none⟩ = some (.int .i64 0) := BH.out.cell 0
  have kH_1 : x7.cell? ⟨h_, 1, none⟩ = some (.int .i64 4) := BH.out.cell 1
  have kH_2 : x7.cell? ⟨h_, 2, none⟩ = some (.int .i64 3) := BH.out.cell 2
  have kH_3 : x7.cell? ⟨h_, 3, none⟩ = some (.int .i64 0) := BH.out.cell 3
  have kH_4 : x7.cell? ⟨h_, 4, none⟩ = some (.int .i64 6) := BH.out.cell 4
  have kH_5 : x7.cell? ⟨h_, 5, none⟩ = some (.int .i64 0) := BH.out.cell 5
  have kH_6 : x7.cell? ⟨h_, 6, none⟩ = some (.int .u32 0) := BH.out.cell 6
  have kH_7 : x7.cell? ⟨h_, 7, none⟩ = some (.int .u32 0) := BH.out.cell 7
  have kH_8 : x7.cell? ⟨h_, 8, none⟩ = some (.int .u32 0) := BH.out.cell 8
  have kH_9 : x7.cell? ⟨h_, 9, none⟩ = some (.int .u64 0) := BH.out.cell 9
  have kH_10 : x7.cell? ⟨h_, 10, none⟩ = some (.int .u64 0) := BH.out.cell 10
  have kH_11 : x7.cell? ⟨h_, 11, none⟩ = some (.int .u64 0) := BH.out.cell 11
  have kH_12 : x7.cell? ⟨h_, 12, none⟩ = some (.int .u64 0) := BH.out.cell 12
  go_wp2_with fail
  refine (refEncode_ok 0 4 3 0 6 0 0 0 0 0 0 0 0 _ (by decide) (by decide) (by decide) (by decide) (by decide) (by decide) (by decide) (by decide)).mono ?_
  rintro e y9 ⟨A1, c1, rfl, hx, hb⟩
  clear kH_0 kH_1 kH_2 kH_3 kH_4 kH_5 kH_6 kH_7 kH_8 kH_9 kH_10 kH_11 kH_12
  have hbx : Below x7.heap.size x7 y9 := below_via (by go_grown) hb (by first | (simp; done) | (simp; omega))
  have BI := Lib.hid (BI.out.stays hbx)
  have BJ := Lib.hid (BJ.out.stays hbx)
  have BH := Lib.hid (BH.out.stays hbx)
  have X := Lib.hid hx
  have R10 := Lib.hid (R8.out.trans (hbx.mono hz_x7))
  have hz_y9 := R10.out.size
  clear hb hbx hx R8 hz_x7
  go_wp2_with fail
  refine (refAsk_any 0 _).mono ?_
  rintro e y11 ⟨rfl, hb⟩
  have hbx : Below y9.heap.size y9 y11 := below_via (by go_grown) hb (by first | (simp; done) | (simp; omega))
  have BI := Lib.hid (BI.out.stays hbx)
  have BJ := Lib.hid (BJ.out.stays hbx)
  have BH := Lib.hid (BH.out.stays hbx)
  have X := Lib.hid (X.out.stays hbx)
  have R12 := Lib.hid (R10.out.trans (hbx.mono hz_y9))
  have hz_y11 := R12.out.size
  clear hb hbx  R10 hz_y9
  go_wp2_with fail
  refine (refEncode_ok 0 4 3 0 6 0 0 0 0 0 0 0 0 _ (by decide) (by decide) (by decide) (by decide) (by decide) (by decide) (by decide) (by decide)).mono ?_
  rintro e y13 ⟨A2, c2, rfl, hy, hb⟩
  have hbx : Below y11.heap.size y11 y13 := below_via (by go_grown) hb (by first | (simp; done) | (simp; omega))
  have BI := Lib.hid (BI.out.stays hbx)
  have BJ := Lib.hid (BJ.out.stays hbx)
  have BH := Lib.hid (BH.out.stays hbx)
  have X := Lib.hid (X.out.stays hbx)
  have Y := Lib.hid hy
  have R14 := Lib.hid (R12.out.trans (hbx.mono hz_y11))
  have hz_y13 := R14.out.size
  clear hb hbx hy R12 hz_y11
  go_wp2_with fail
  refine (ilKnown _).mono ?_
  rintro e y15 ⟨rfl, hb⟩
  have hbx : Below y13.heap.size y13 y15 := below_via (by go_grown) hb (by first | (simp; done) | (simp; omega))
  have BI := Lib.hid (BI.out.stays hbx)
  have BJ := Lib.hid (BJ.out.stays hbx)
  have BH := Lib.hid (BH.out.stays hbx)
  have X := Lib.hid (X.out.stays hbx)
  have Y := Lib.hid (Y.out.stays hbx)
  have R16 := Lib.hid (R14.out.trans (hbx.mono hz_y13))
  have hz_y15 := R16.out.size
  clear hb hbx  R14 hz_y13
  go_wp2_with fail
  refine (refSame_true X.out Y.out rfl).mono ?_
  rintro e q_ ⟨rfl, rfl⟩
  go_wp2
  go_ret
  exact ⟨rfl, R16.out⟩
set_option maxRecDepth 100000 in
set_option maxHeartbeats 4000000 in
theorem qs_known (o : Bool) (tr : Nat) (asked sent got : Int) (re ma : Nat) (t : Nat) (at_ : Int) (h1 : -1152921504606846976 ≤ at_) (h2 : at_ ≤ 1152921504606846976) (ht : ¬ t = 0) (hm : ¬ t = ma) (w : World) :
    Calls Try.prog 10 #[.agg #[.bool o, .bool true, .int .u64 tr, .int .i64 asked, .int .i64 sent, .int .i64 got, .int .u64 re, .int .u64 ma], .int .u64 t, .int .i64 at_] w fun e w' => e = .returned (.bool true) ∧ Below w.heap.size w w' := by
  go_enter Try.func10, Try.ntmps10
  go_upto_region 1 with fail
  obtain ⟨x1, i_, ex1, ei_⟩ : ∃ x1 i_, x1 = w.alloc (.cells #[.bool o, .bool true, .int .u64 tr, .int .i64 asked, .int .i64 sent, .int .i64 got, .int .u64 re, .int .u64 ma] 61) ∧ i_ = w.heap.size := ⟨_, _, rfl, rfl⟩
  rw [← ex1, ← ei_]
  have hbx : Below w.heap.size w x1 := by rw [ex1]; exact below_alloc1 _ _ 
  have g_I : w.heap.size ≤ i_ := by rw [ei_]; exact Nat.le_refl _
  have BI := Lib.hid (show Blk x1 i_ 61 #[.bool o, .bool true, .int .u64 tr, .int .i64 asked, .int .i64 sent, .int .i64 got, .int .u64 re, .int .u64 ma] by rw [ex1, ei_]; exact blk_new1_0 _ _ _ )
  have R2 := Lib.hid hbx
  have hz_x1 := R2.out.size
  clear hbx ex1 ei_
  have kI_0 : x1.cell? ⟨i_, 0, none⟩ = some (.bool o) := BI.out.cell 0
  have kI_1 : x1.cell? ⟨i_, 1, none⟩ = some (.bool true) := BI.out.cell 1
  have kI_2 : x1.cell? ⟨i_, 2, none⟩ = some (.int .u64 tr) := BI.out.cell 2
  have kI_3 : x1.cell? ⟨i_, 3, none⟩ = some (.int .i64 asked) := BI.out.cell 3
  have kI_4 : x1.cell? ⟨i_, 4, none⟩ = some (.int .i64 sent) := BI.out.cell 4
  have kI_5 : x1.cell? ⟨i_, 5, none⟩ = some (.int .i64 got) := BI.out.cell 5
  have kI_6 : x1.cell? ⟨i_, 6, none⟩ = some (.int .u64 re) := BI.out.cell 6
  have kI_7 : x1.cell? ⟨i_, 7, none⟩ = some (.int .u64 ma) := BI.out.cell 7
  go_wp2_with fail
  refine (ilAsk_known o tr asked sent got re ma t at_ h1 h2 ht hm _).mono ?_
  rintro e y3 ⟨rfl, hb⟩
  clear kI_0 kI_1 kI_2 kI_3 kI_4 kI_5 kI_6 kI_7
  have hbx : Below x1.heap.size x1 y3 := below_via (by go_grown) hb (by first | (simp; done) | (simp; omega))
  have BI := Lib.hid (BI.out.stays hbx)
  have R4 := Lib.hid (R2.out.trans (hbx.mono hz_x1))
  have hz_y3 := R4.out.size
  clear hb hbx  R2 hz_x1
  go_upto_region 2 with fail
  obtain ⟨x5, j_, h_, ex5, ej_, eh_⟩ : ∃ x5 j_ h_, x5 = (y3.alloc (.cells #[.bool true, .bool true, .int .u64 t, .int .i64 at_, .int .i64 sent, .int .i64 got, .int .u64 re, .int .u64 ma] 61)).alloc (.cells #[.int .i64 0, .int .i64 4, .int .i64 3, .int .i64 0, .int .i64 6, .int .i64 0, .int .u32 0, .int .u32 0, .int .u32 0, .int .u64 0, .int .u64 re, .int .u64 ma, .int .u64 t] 25) ∧ j_ = y3.heap.size ∧ h_ = y3.heap.size + 1 := ⟨_, _, _, rfl, rfl, rfl⟩
  rw [← ex5, ← eh_, ← ej_]
  have hbx : Below y3.heap.size y3 x5 := by rw [ex5]; exact below_alloc2 _ _ _ 
  have o_I_J : i_ < j_ := by rw [ej_]; exact BI.out.lt
  have o_J_H : j_ < h_ := by omega
  have g_J : w.heap.size ≤ j_ := by rw [ej_]; exact hz_y3
  have BI := Lib.hid (BI.out.stays hbx)
  have BJ := Lib.hid (show Blk x5 j_ 61 #[.bool true, .bool true, .int .u64 t, .int .i64 at_, .int .i64 sent, .int .i64 got, .int .u64 re, .int .u64 ma] by rw [ex5, ej_]; exact blk_new2_0 _ _ _ _ _ )
  have BH := Lib.hid (show Blk x5 h_ 25 #[.int .i64 0, .int .i64 4, .int .i64 3, .int .i64 0, .int .i64 6, .int .i64 0, .int .u32 0, .int .u32 0, .int .u32 0, .int .u64 0, .int .u64 re, .int .u64 ma, .int .u64 t] by rw [ex5, eh_]; exact blk_new2_1 _ _ _ _ _ )
  have R6 := Lib.hid (R4.out.trans (hbx.mono hz_y3))
  have hz_x5 := R6.out.size
  clear hbx ex5 ej_ eh_ R4 hz_y3
  have kH_10 : x5.cell? ⟨h_, 10, none⟩ = some (.int .u64 re) := BH.out.cell 10
  have kH_11 : x5.cell? ⟨h_, 11, none⟩ = some (.int .u64 ma) := BH.out.cell 11
  have kH_12 : x5.cell? ⟨h_, 12, none⟩ = some (.int .u64 t) := BH.out.cell 12
  have fH_10 := BH.out.frozen 10
  have fH_11 := BH.out.frozen 11
  have fH_12 := BH.out.frozen 12
  go_upto_region 5 with fail
  clear kH_10 kH_11 kH_12 fH_10 fH_11 fH_12
  obtain ⟨x7, ex7⟩ : ∃ x7, x7 = ((x5.setCell ⟨h_, 12, none⟩ (.int .u64 0)).setCell ⟨h_, 10, none⟩ (.int .u64 0)).setCell ⟨h_, 11, none⟩ (.int .u64 0) := ⟨_, rfl⟩
  rw [← ex7]
  have BI := Lib.hid (show Blk x7 i_ 61 #[.bool o, .bool true, .int .u64 tr, .int .i64 asked, .int .i64 sent, .int .i64 got, .int .u64 re, .int .u64 ma] from by rw [ex7]; exact (((BI.out.far (p := ⟨h_, 12, none⟩) (by simp only []; omega) _).far (p := ⟨h_, 10, none⟩) (by simp only []; omega) _).far (p := ⟨h_, 11, none⟩) (by simp only []; omega) _))
  have BJ := Lib.hid (show Blk x7 j_ 61 #[.bool true, .bool true, .int .u64 t, .int .i64 at_, .int .i64 sent, .int .i64 got, .int .u64 re, .int .u64 ma] from by rw [ex7]; exact (((BJ.out.far (p := ⟨h_, 12, none⟩) (by simp only []; omega) _).far (p := ⟨h_, 10, none⟩) (by simp only []; omega) _).far (p := ⟨h_, 11, none⟩) (by simp only []; omega) _))
  have BH := Lib.hid (show Blk x7 h_ 25 #[.int .i64 0, .int .i64 4, .int .i64 3, .int .i64 0, .int .i64 6, .int .i64 0, .int .u32 0, .int .u32 0, .int .u32 0, .int .u64 0, .int .u64 0, .int .u64 0, .int .u64 0] from by rw [ex7]; exact (((BH.out.put 12 _).put 10 _).put 11 _))
  have R8 := Lib.hid (show Below w.heap.size w x7 from by rw [ex7]; exact (((R6.out.setCell (p := ⟨h_, 12, none⟩) (by simp only []; omega) _).setCell (p := ⟨h_, 10, none⟩) (by simp only []; omega) _).setCell (p := ⟨h_, 11, none⟩) (by simp only []; omega) _))
  have hz_x7 := R8.out.size
  clear R6 hz_x5
  clear ex7
  have kH_0 : x7.cell? ⟨h_, 0, none⟩ = some (.int .i64 0) := BH.out.cell 0
  have kH_1 : x7.cell? ⟨h_, 1, none⟩ = some (.int .i64 4) := BH.out.cell 1
  have kH_2 : x7.cell? ⟨h_, 2, none⟩ = some (.int .i64 3) := BH.out.cell 2
  have kH_3 : x7.cell? ⟨h_, 3, none⟩ = some (.int .i64 0) := BH.out.cell 3
  have kH_4 : x7.cell? ⟨h_, 4, none⟩ = some (.int .i64 6) := BH.out.cell 4
  have kH_5 : x7.cell? ⟨h_, 5, none⟩ = some (.int .i64 0) := BH.out.cell 5
  have kH_6 : x7.cell? ⟨h_, 6, none⟩ = some (.int .u32 0) := BH.out.cell 6
  have kH_7 : x7.cell? ⟨h_, 7, none⟩ = some (.int .u32 0) := BH.out.cell 7
  have kH_8 : x7.cell? ⟨h_, 8, none⟩ = some (.int .u32 0) := BH.out.cell 8
  have kH_9 : x7.cell? ⟨h_, 9, none⟩ = some (.int .u64 0) := BH.out.cell 9
  have kH_10 : x7.cell? ⟨h_, 10, none⟩ = some (.int .u64 0) := BH.out.cell 10
  have kH_11 : x7.cell? ⟨h_, 11, none⟩ = some (.int .u64 0) := BH.out.cell 11
  have kH_12 : x7.cell? ⟨h_, 12, none⟩ = some (.int .u64 0) := BH.out.cell 12
  go_wp2_with fail
  refine (refEncode_ok 0 4 3 0 6 0 0 0 0 0 0 0 0 _ (by decide) (by decide) (by decide) (by decide) (by decide) (by decide) (by decide) (by decide)).mono ?_
  rintro e y9 ⟨A1, c1, rfl, hx, hb⟩
  clear kH_0 kH_1 kH_2 kH_3 kH_4 kH_5 kH_6 kH_7 kH_8 kH_9 kH_10 kH_11 kH_12
  have hbx : Below x7.heap.size x7 y9 := below_via (by go_grown) hb (by first | (simp; done) | (simp; omega))
  have BI := Lib.hid (BI.out.stays hbx)
  have BJ := Lib.hid (BJ.out.stays hbx)
  have BH := Lib.hid (BH.out.stays hbx)
  have X := Lib.hid hx
  have R10 := Lib.hid (R8.out.trans (hbx.mono hz_x7))
  have hz_y9 := R10.out.size
  clear hb hbx hx R8 hz_x7
  go_wp2_with fail
  refine (refAsk_any 0 _).mono ?_
  rintro e y11 ⟨rfl, hb⟩
  have hbx : Below y9.heap.size y9 y11 := below_via (by go_grown) hb (by first | (simp; done) | (simp; omega))
  have BI := Lib.hid (BI.out.stays hbx)
  have BJ := Lib.hid (BJ.out.stays hbx)
  have BH := Lib.hid (BH.out.stays hbx)
  have X := Lib.hid (X.out.stays hbx)
  have R12 := Lib.hid (R10.out.trans (hbx.mono hz_y9))
  have hz_y11 := R12.out.size
  clear hb hbx  R10 hz_y9
  go_wp2_with fail
  refine (refEncode_ok 0 4 3 0 6 0 0 0 0 0 0 0 0 _ (by decide) (by decide) (by decide) (by decide) (by decide) (by decide) (by decide) (by decide)).mono ?_
  rintro e y13 ⟨A2, c2, rfl, hy, hb⟩
  have hbx : Below y11.heap.size y11 y13 := below_via (by go_grown) hb (by first | (simp; done) | (simp; omega))
  have BI := Lib.hid (BI.out.stays hbx)
  have BJ := Lib.hid (BJ.out.stays hbx)
  have BH := Lib.hid (BH.out.stays hbx)
  have X := Lib.hid (X.out.stays hbx)
  have Y := Lib.hid hy
  have R14 := Lib.hid (R12.out.trans (hbx.mono hz_y11))
  have hz_y13 := R14.out.size
  clear hb hbx hy R12 hz_y11
  go_wp2_with fail
  refine (ilKnown _).mono ?_
  rintro e y15 ⟨rfl, hb⟩
  have hbx : Below y13.heap.size y13 y15 := below_via (by go_grown) hb (by first | (simp; done) | (simp; omega))
  have BI := Lib.hid (BI.out.stays hbx)
  have BJ := Lib.hid (BJ.out.stays hbx)
  have BH := Lib.hid (BH.out.stays hbx)
  have X := Lib.hid (X.out.stays hbx)
  have Y := Lib.hid (Y.out.stays hbx)
  have R16 := Lib.hid (R14.out.trans (hbx.mono hz_y13))
  have hz_y15 := R16.out.size
  clear hb hbx  R14 hz_y13
  go_wp2_with fail
  refine (refSame_true X.out Y.out rfl).mono ?_
  rintro e q_ ⟨rfl, rfl⟩
  go_wp2
  go_ret
  exact ⟨rfl, R16.out⟩
theorem interleaveQuestions_walk (o k : Bool) (tr : Nat) (asked sent got : Int) (re ma t : Nat) (at_ : Int) (w : World) :
    Calls Try.prog 10 #[.agg #[.bool o, .bool k, .int .u64 tr, .int .i64 asked, .int .i64 sent, .int .i64 got, .int .u64 re, .int .u64 ma], .int .u64 t, .int .i64 at_] w fun e w' => e = .returned (.bool true) ∧ Below w.heap.size w w' := by
  by_cases h1 : -1152921504606846976 ≤ at_
  · by_cases h2 : at_ ≤ 1152921504606846976
    · by_cases ht : t = 0
      · exact qs_zero _ _ _ _ _ _ _ _ _ _ h1 h2 ht w
      · cases k with
        | false => exact qs_fresh _ _ _ _ _ _ _ _ _ h1 h2 ht w
        | true =>
          by_cases hm : t = ma
          · exact qs_mark _ _ _ _ _ _ _ _ _ h1 h2 ht hm w
          · exact qs_known _ _ _ _ _ _ _ _ _ h1 h2 ht hm w
    · exact qs_range _ _ _ _ _ _ _ _ _ _ (by omega) w
  · exact qs_range _ _ _ _ _ _ _ _ _ _ (by omega) w
theorem interleaveQuestions_walk' (a0 a1 : Bool) (a2 a3 a4 a5 a6 a7 t at_ : Int) (w2 : (Lit.int .u64 a2).wf = true) (w6 : (Lit.int .u64 a6).wf = true) (w7 : (Lit.int .u64 a7).wf = true) (wt : (Lit.int .u64 t).wf = true) (w : World) :
    Calls Try.prog 10 #[.agg #[.bool a0, .bool a1, .int .u64 a2, .int .i64 a3, .int .i64 a4, .int .i64 a5, .int .u64 a6, .int .u64 a7], .int .u64 t, .int .i64 at_] w fun e w' => e = .returned (.bool true) ∧ Below w.heap.size w w' := by
  obtain ⟨x2, rfl⟩ := Int.eq_ofNat_of_zero_le (bounds_u64 w2).1
  obtain ⟨x6, rfl⟩ := Int.eq_ofNat_of_zero_le (bounds_u64 w6).1
  obtain ⟨x7, rfl⟩ := Int.eq_ofNat_of_zero_le (bounds_u64 w7).1
  obtain ⟨xt, rfl⟩ := Int.eq_ofNat_of_zero_le (bounds_u64 wt).1
  exact interleaveQuestions_walk a0 a1 x2 a3 a4 a5 x6 x7 xt at_ w
end Go.Proofs.Ytnpfndlmbaafaaa
