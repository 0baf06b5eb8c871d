/- The walk of PacketReadsBack. -/
import Derived.Test.YtnpfndlmbaafaaaPkN
import Derived.Test.YtnpfndlmbaafaaaPkE
import Derived.Test.YtnpfndlmbaafaaaRefJoin
import Derived.Test.YtnpfndlmbaafaaaSame
namespace Go.Proofs.Ytnpfndlmbaafaaa
open Go.RowKit

set_option maxRecDepth 100000 in
set_option maxHeartbeats 4000000 in
theorem prb_far1 (h0 h1 h2 h3 h4 h5 : Int) (h6 h7 h8 h9 h10 h11 h12 : Nat) (A1 : Option Addr) (n1 c1 : Nat) (A2 : Option Addr) (n2 c2 : Nat) (w : World) (h : 100 < n1) :
    Calls Try.prog 7 #[.agg #[.int .i64 h0, .int .i64 h1, .int .i64 h2, .int .i64 h3, .int .i64 h4, .int .i64 h5, .int .u32 h6, .int .u32 h7, .int .u32 h8, .int .u64 h9, .int .u64 h10, .int .u64 h11, .int .u64 h12], .slice A1 n1 c1, .slice A2 n2 c2] w fun e w' => e = .returned (.bool true) ∧ Below w.heap.size w w' := by
  have n1i : (n1 : Int) > 100 := by omega
  go_enter Try.func7, Try.ntmps7
  go_upto_region 1 with fail
  obtain ⟨x1, h_, ex1, eh_⟩ : ∃ x1 h_, x1 = w.alloc (.cells #[.int .i64 h0, .int .i64 h1, .int .i64 h2, .int .i64 h3, .int .i64 h4, .int .i64 h5, .int .u32 h6, .int .u32 h7, .int .u32 h8, .int .u64 h9, .int .u64 h10, .int .u64 h11, .int .u64 h12] 25) ∧ h_ = w.heap.size := ⟨_, _, rfl, rfl⟩
  rw [← ex1, ← eh_]
  have hbx : Below w.heap.size w x1 := by rw [ex1]; exact below_alloc1 _ _ 
  have g_H : w.heap.size ≤ h_ := by rw [eh_]; exact Nat.le_refl _
  have BH := Lib.hid (show Blk x1 h_ 25 #[.int .i64 h0, .int .i64 h1, .int .i64 h2, .int .i64 h3, .int .i64 h4, .int .i64 h5, .int .u32 h6, .int .u32 h7, .int .u32 h8, .int .u64 h9, .int .u64 h10, .int .u64 h11, .int .u64 h12] by rw [ex1, eh_]; exact blk_new1_0 _ _ _ )
  have R2 := Lib.hid hbx
  have hz_x1 := R2.out.size
  clear hbx ex1 eh_
  go_wp2_with fail
  refine (pkKnown _).mono ?_
  rintro e y3 ⟨rfl, hb⟩
  have hbx : Below x1.heap.size x1 y3 := below_via (by go_grown) hb (by first | (simp; done) | (simp; omega))
  have BH := Lib.hid (BH.out.stays hbx)
  have R4 := Lib.hid (R2.out.trans (hbx.mono hz_x1))
  have hz_y3 := R4.out.size
  clear hb hbx  R2 hz_x1
  go_wp2
  go_ret
  exact ⟨rfl, R4.out⟩
set_option maxRecDepth 100000 in
set_option maxHeartbeats 4000000 in
theorem prb_far2 (h0 h1 h2 h3 h4 h5 : Int) (h6 h7 h8 h9 h10 h11 h12 : Nat) (A1 : Option Addr) (n1 c1 : Nat) (A2 : Option Addr) (n2 c2 : Nat) (w : World) (g1 : n1 ≤ 100) (h : 200 < n2) :
    Calls Try.prog 7 #[.agg #[.int .i64 h0, .int .i64 h1, .int .i64 h2, .int .i64 h3, .int .i64 h4, .int .i64 h5, .int .u32 h6, .int .u32 h7, .int .u32 h8, .int .u64 h9, .int .u64 h10, .int .u64 h11, .int .u64 h12], .slice A1 n1 c1, .slice A2 n2 c2] w fun e w' => e = .returned (.bool true) ∧ Below w.heap.size w w' := by
  have n1i : ¬ (n1 : Int) > 100 := by omega
  have n2i : (n2 : Int) > 200 := by omega
  go_enter Try.func7, Try.ntmps7
  go_upto_region 1 with fail
  obtain ⟨x1, h_, ex1, eh_⟩ : ∃ x1 h_, x1 = w.alloc (.cells #[.int .i64 h0, .int .i64 h1, .int .i64 h2, .int .i64 h3, .int .i64 h4, .int .i64 h5, .int .u32 h6, .int .u32 h7, .int .u32 h8, .int .u64 h9, .int .u64 h10, .int .u64 h11, .int .u64 h12] 25) ∧ h_ = w.heap.size := ⟨_, _, rfl, rfl⟩
  rw [← ex1, ← eh_]
  have hbx : Below w.heap.size w x1 := by rw [ex1]; exact below_alloc1 _ _ 
  have g_H : w.heap.size ≤ h_ := by rw [eh_]; exact Nat.le_refl _
  have BH := Lib.hid (show Blk x1 h_ 25 #[.int .i64 h0, .int .i64 h1, .int .i64 h2, .int .i64 h3, .int .i64 h4, .int .i64 h5, .int .u32 h6, .int .u32 h7, .int .u32 h8, .int .u64 h9, .int .u64 h10, .int .u64 h11, .int .u64 h12] by rw [ex1, eh_]; exact blk_new1_0 _ _ _ )
  have R2 := Lib.hid hbx
  have hz_x1 := R2.out.size
  clear hbx ex1 eh_
  go_wp2_with fail
  refine (pkKnown _).mono ?_
  rintro e y3 ⟨rfl, hb⟩
  have hbx : Below x1.heap.size x1 y3 := below_via (by go_grown) hb (by first | (simp; done) | (simp; omega))
  have BH := Lib.hid (BH.out.stays hbx)
  have R4 := Lib.hid (R2.out.trans (hbx.mono hz_x1))
  have hz_y3 := R4.out.size
  clear hb hbx  R2 hz_x1
  go_wp2
  go_ret
  exact ⟨rfl, R4.out⟩
set_option maxRecDepth 100000 in
set_option maxHeartbeats 4000000 in
theorem prb_bad_short (h0 h1 h2 h3 h4 h5 : Int) (h6 h7 h8 h9 h10 h11 h12 : Nat) (hok : ¬ HdOk h0 h1 h2 h3 h4 h5) (A1 : Option Addr) (n1 c1 : Nat) (l1 : List UInt8) (A2 : Option Addr) (n2 c2 : Nat) (l2 : List UInt8) (w : World) (hv1 : Bytes w A1 n1 c1 l1) (hv2 : Bytes w A2 n2 c2 l2) (hn1 : n1 ≤ 100) (hn2 : n2 ≤ 200) (hw : n2 < 48) :
    Calls Try.prog 7 #[.agg #[.int .i64 h0, .int .i64 h1, .int .i64 h2, .int .i64 h3, .int .i64 h4, .int .i64 h5, .int .u32 h6, .int .u32 h7, .int .u32 h8, .int .u64 h9, .int .u64 h10, .int .u64 h11, .int .u64 h12], .slice A1 n1 c1, .slice A2 n2 c2] w fun e w' => e = .returned (.bool true) ∧ Below w.heap.size w w' := by
  have V1 := Lib.hid hv1
  have V2 := Lib.hid hv2
  have L2 := Lib.hid hv2.len
  have L1 := Lib.hid hv1.len
  have c1l := hv1.le
  have c2l := hv2.le
  have c1c := hv1.cap
  have c2c := hv2.cap
  have HOK := Lib.hid hok
  clear hv1 hv2 hok
  have n1i : ¬ (n1 : Int) > 100 := by omega
  have n2i : ¬ (n2 : Int) > 200 := by omega
  go_enter Try.func7, Try.ntmps7
  go_upto_region 1 with fail
  obtain ⟨x1, h_, ex1, eh_⟩ : ∃ x1 h_, x1 = w.alloc (.cells #[.int .i64 h0, .int .i64 h1, .int .i64 h2, .int .i64 h3, .int .i64 h4, .int .i64 h5, .int .u32 h6, .int .u32 h7, .int .u32 h8, .int .u64 h9, .int .u64 h10, .int .u64 h11, .int .u64 h12] 25) ∧ h_ = w.heap.size := ⟨_, _, rfl, rfl⟩
  rw [← ex1, ← eh_]
  have hbx : Below w.heap.size w x1 := by rw [ex1]; exact below_alloc1 _ _ 
  have g_H : w.heap.size ≤ h_ := by rw [eh_]; exact Nat.le_refl _
  have V1 := Lib.hid (V1.out.stays hbx)
  have V2 := Lib.hid (V2.out.stays hbx)
  have BH := Lib.hid (show Blk x1 h_ 25 #[.int .i64 h0, .int .i64 h1, .int .i64 h2, .int .i64 h3, .int .i64 h4, .int .i64 h5, .int .u32 h6, .int .u32 h7, .int .u32 h8, .int .u64 h9, .int .u64 h10, .int .u64 h11, .int .u64 h12] by rw [ex1, eh_]; exact blk_new1_0 _ _ _ )
  have R2 := Lib.hid hbx
  have hz_x1 := R2.out.size
  clear hbx ex1 eh_
  have kH_0 : x1.cell? ⟨h_, 0, none⟩ = some (.int .i64 h0) := BH.out.cell 0
  have kH_1 : x1.cell? ⟨h_, 1, none⟩ = some (.int .i64 h1) := BH.out.cell 1
  have kH_2 : x1.cell? ⟨h_, 2, none⟩ = some (.int .i64 h2) := BH.out.cell 2
  have kH_3 : x1.cell? ⟨h_, 3, none⟩ = some (.int .i64 h3) := BH.out.cell 3
  have kH_4 : x1.cell? ⟨h_, 4, none⟩ = some (.int .i64 h4) := BH.out.cell 4
  have kH_5 : x1.cell? ⟨h_, 5, none⟩ = some (.int .i64 h5) := BH.out.cell 5
  have kH_6 : x1.cell? ⟨h_, 6, none⟩ = some (.int .u32 h6) := BH.out.cell 6
  have kH_7 : x1.cell? ⟨h_, 7, none⟩ = some (.int .u32 h7) := BH.out.cell 7
  have kH_8 : x1.cell? ⟨h_, 8, none⟩ = some (.int .u32 h8) := BH.out.cell 8
  have kH_9 : x1.cell? ⟨h_, 9, none⟩ = some (.int .u64 h9) := BH.out.cell 9
  have kH_10 : x1.cell? ⟨h_, 10, none⟩ = some (.int .u64 h10) := BH.out.cell 10
  have kH_11 : x1.cell? ⟨h_, 11, none⟩ = some (.int .u64 h11) := BH.out.cell 11
  have kH_12 : x1.cell? ⟨h_, 12, none⟩ = some (.int .u64 h12) := BH.out.cell 12
  go_wp2_with fail
  refine (encode_bad h0 h1 h2 h3 h4 h5 h6 h7 h8 h9 h10 h11 h12 _ HOK.out).mono ?_
  rintro e y3 ⟨rfl, hb⟩
  clear kH_0 kH_1 kH_2 kH_3 kH_4 kH_5 kH_6 kH_7 kH_8 kH_9 kH_10 kH_11 kH_12
  have hbx : Below x1.heap.size x1 y3 := below_via (by go_grown) hb (by first | (simp; done) | (simp; omega))
  have BH := Lib.hid (BH.out.stays hbx)
  have V1 := Lib.hid (V1.out.stays hbx)
  have V2 := Lib.hid (V2.out.stays hbx)
  have R4 := Lib.hid (R2.out.trans (hbx.mono hz_x1))
  have hz_y3 := R4.out.size
  clear hb hbx  R2 hz_x1
  go_wp2_with fail
  refine (dec_short _ _ _ _ _ V2.out hw).mono ?_
  rintro e y5 ⟨rfl, hb⟩
  have hbx : Below y3.heap.size y3 y5 := below_via (by go_grown) hb (by first | (simp; done) | (simp; omega))
  have BH := Lib.hid (BH.out.stays hbx)
  have V1 := Lib.hid (V1.out.stays hbx)
  have V2 := Lib.hid (V2.out.stays hbx)
  have R6 := Lib.hid (R4.out.trans (hbx.mono hz_y3))
  have hz_y5 := R6.out.size
  clear hb hbx  R4 hz_y3
  go_upto_region 9 with fail
  obtain ⟨x7, d_, ex7, ed_⟩ : ∃ x7 d_, x7 = y5.alloc (.cells #[.int .i64 0, .int .i64 0, .int .i64 0, .int .i64 0, .int .i64 0, .int .i64 0, .int .u32 0, .int .u32 0, .int .u32 0, .int .u64 0, .int .u64 0, .int .u64 0, .int .u64 0] 25) ∧ d_ = y5.heap.size := ⟨_, _, rfl, rfl⟩
  rw [← ex7, ← ed_]
  have hbx : Below y5.heap.size y5 x7 := by rw [ex7]; exact below_alloc1 _ _ 
  have o_H_D : h_ < d_ := by rw [ed_]; exact BH.out.lt
  have g_D : w.heap.size ≤ d_ := by rw [ed_]; exact hz_y5
  have BH := Lib.hid (BH.out.stays hbx)
  have V1 := Lib.hid (V1.out.stays hbx)
  have V2 := Lib.hid (V2.out.stays hbx)
  have BD := Lib.hid (show Blk x7 d_ 25 #[.int .i64 0, .int .i64 0, .int .i64 0, .int .i64 0, .int .i64 0, .int .i64 0, .int .u32 0, .int .u32 0, .int .u32 0, .int .u64 0, .int .u64 0, .int .u64 0, .int .u64 0] by rw [ex7, ed_]; exact blk_new1_0 _ _ _ )
  have R8 := Lib.hid (R6.out.trans (hbx.mono hz_y5))
  have hz_x7 := R8.out.size
  clear hbx ex7 ed_ R6 hz_y5
  go_wp2_with fail
  refine (pkKnown _).mono ?_
  rintro e y9 ⟨rfl, hb⟩
  have hbx : Below x7.heap.size x7 y9 := below_via (by go_grown) hb (by first | (simp; done) | (simp; omega))
  have BH := Lib.hid (BH.out.stays hbx)
  have BD := Lib.hid (BD.out.stays hbx)
  have V1 := Lib.hid (V1.out.stays hbx)
  have V2 := Lib.hid (V2.out.stays hbx)
  have R10 := Lib.hid (R8.out.trans (hbx.mono hz_x7))
  have hz_y9 := R10.out.size
  clear hb hbx  R8 hz_x7
  go_wp2
  go_ret
  exact ⟨rfl, R10.out⟩
set_option maxRecDepth 100000 in
set_option maxHeartbeats 4000000 in
theorem prb_bad_form (h0 h1 h2 h3 h4 h5 : Int) (h6 h7 h8 h9 h10 h11 h12 : Nat) (hok : ¬ HdOk h0 h1 h2 h3 h4 h5) (A1 : Option Addr) (n1 c1 : Nat) (l1 : List UInt8) (A2 : Option Addr) (n2 c2 : Nat) (l2 : List UInt8) (w : World) (hv1 : Bytes w A1 n1 c1 l1) (hv2 : Bytes w A2 n2 c2 l2) (hn1 : n1 ≤ 100) (hn2 : n2 ≤ 200) (hw1 : 48 ≤ n2) (hw2 : ¬ (dcV l2 = 3 ∨ dcV l2 = 4)) :
    Calls Try.prog 7 #[.agg #[.int .i64 h0, .int .i64 h1, .int .i64 h2, .int .i64 h3, .int .i64 h4, .int .i64 h5, .int .u32 h6, .int .u32 h7, .int .u32 h8, .int .u64 h9, .int .u64 h10, .int .u64 h11, .int .u64 h12], .slice A1 n1 c1, .slice A2 n2 c2] w fun e w' => e = .returned (.bool true) ∧ Below w.heap.size w w' := by
  have V1 := Lib.hid hv1
  have V2 := Lib.hid hv2
  have L2 := Lib.hid hv2.len
  have L1 := Lib.hid hv1.len
  have c1l := hv1.le
  have c2l := hv2.le
  have c1c := hv1.cap
  have c2c := hv2.cap
  have HOK := Lib.hid hok
  clear hv1 hv2 hok
  have n1i : ¬ (n1 : Int) > 100 := by omega
  have n2i : ¬ (n2 : Int) > 200 := by omega
  go_enter Try.func7, Try.ntmps7
  go_upto_region 1 with fail
  obtain ⟨x1, h_, ex1, eh_⟩ : ∃ x1 h_, x1 = w.alloc (.cells #[.int .i64 h0, .int .i64 h1, .int .i64 h2, .int .i64 h3, .int .i64 h4, .int .i64 h5, .int .u32 h6, .int .u32 h7, .int .u32 h8, .int .u64 h9, .int .u64 h10, .int .u64 h11, .int .u64 h12] 25) ∧ h_ = w.heap.size := ⟨_, _, rfl, rfl⟩
  rw [← ex1, ← eh_]
  have hbx : Below w.heap.size w x1 := by rw [ex1]; exact below_alloc1 _ _ 
  have g_H : w.heap.size ≤ h_ := by rw [eh_]; exact Nat.le_refl _
  have V1 := Lib.hid (V1.out.stays hbx)
  have V2 := Lib.hid (V2.out.stays hbx)
  have BH := Lib.hid (show Blk x1 h_ 25 #[.int .i64 h0, .int .i64 h1, .int .i64 h2, .int .i64 h3, .int .i64 h4, .int .i64 h5, .int .u32 h6, .int .u32 h7, .int .u32 h8, .int .u64 h9, .int .u64 h10, .int .u64 h11, .int .u64 h12] by rw [ex1, eh_]; exact blk_new1_0 _ _ _ )
  have R2 := Lib.hid hbx
  have hz_x1 := R2.out.size
  clear hbx ex1 eh_
  have kH_0 : x1.cell? ⟨h_, 0, none⟩ = some (.int .i64 h0) := BH.out.cell 0
  have kH_1 : x1.cell? ⟨h_, 1, none⟩ = some (.int .i64 h1) := BH.out.cell 1
  have kH_2 : x1.cell? ⟨h_, 2, none⟩ = some (.int .i64 h2) := BH.out.cell 2
  have kH_3 : x1.cell? ⟨h_, 3, none⟩ = some (.int .i64 h3) := BH.out.cell 3
  have kH_4 : x1.cell? ⟨h_, 4, none⟩ = some (.int .i64 h4) := BH.out.cell 4
  have kH_5 : x1.cell? ⟨h_, 5, none⟩ = some (.int .i64 h5) := BH.out.cell 5
  have kH_6 : x1.cell? ⟨h_, 6, none⟩ = some (.int .u32 h6) := BH.out.cell 6
  have kH_7 : x1.cell? ⟨h_, 7, none⟩ = some (.int .u32 h7) := BH.out.cell 7
  have kH_8 : x1.cell? ⟨h_, 8, none⟩ = some (.int .u32 h8) := BH.out.cell 8
  have kH_9 : x1.cell? ⟨h_, 9, none⟩ = some (.int .u64 h9) := BH.out.cell 9
  have kH_10 : x1.cell? ⟨h_, 10, none⟩ = some (.int .u64 h10) := BH.out.cell 10
  have kH_11 : x1.cell? ⟨h_, 11, none⟩ = some (.int .u64 h11) := BH.out.cell 11
  have kH_12 : x1.cell? ⟨h_, 12, none⟩ = some (.int .u64 h12) := BH.out.cell 12
  go_wp2_with fail
  refine (encode_bad h0 h1 h2 h3 h4 h5 h6 h7 h8 h9 h10 h11 h12 _ HOK.out).mono ?_
  rintro e y3 ⟨rfl, hb⟩
  clear kH_0 kH_1 kH_2 kH_3 kH_4 kH_5 kH_6 kH_7 kH_8 kH_9 kH_10 kH_11 kH_12
  have hbx : Below x1.heap.size x1 y3 := below_via (by go_grown) hb (by first | (simp; done) | (simp; omega))
  have BH := Lib.hid (BH.out.stays hbx)
  have V1 := Lib.hid (V1.out.stays hbx)
  have V2 := Lib.hid (V2.out.stays hbx)
  have R4 := Lib.hid (R2.out.trans (hbx.mono hz_x1))
  have hz_y3 := R4.out.size
  clear hb hbx  R2 hz_x1
  go_wp2_with fail
  refine (dec_form _ _ _ _ _ V2.out hw1 (by omega) hw2).mono ?_
  rintro e y5 ⟨rfl, hb⟩
  have hbx : Below y3.heap.size y3 y5 := below_via (by go_grown) hb (by first | (simp; done) | (simp; omega))
  have BH := Lib.hid (BH.out.stays hbx)
  have V1 := Lib.hid (V1.out.stays hbx)
  have V2 := Lib.hid (V2.out.stays hbx)
  have R6 := Lib.hid (R4.out.trans (hbx.mono hz_y3))
  have hz_y5 := R6.out.size
  clear hb hbx  R4 hz_y3
  go_upto_region 9 with fail
  obtain ⟨x7, d_, ex7, ed_⟩ : ∃ x7 d_, x7 = y5.alloc (.cells #[.int .i64 0, .int .i64 0, .int .i64 0, .int .i64 0, .int .i64 0, .int .i64 0, .int .u32 0, .int .u32 0, .int .u32 0, .int .u64 0, .int .u64 0, .int .u64 0, .int .u64 0] 25) ∧ d_ = y5.heap.size := ⟨_, _, rfl, rfl⟩
  rw [← ex7, ← ed_]
  have hbx : Below y5.heap.size y5 x7 := by rw [ex7]; exact below_alloc1 _ _ 
  have o_H_D : h_ < d_ := by rw [ed_]; exact BH.out.lt
  have g_D : w.heap.size ≤ d_ := by rw [ed_]; exact hz_y5
  have BH := Lib.hid (BH.out.stays hbx)
  have V1 := Lib.hid (V1.out.stays hbx)
  have V2 := Lib.hid (V2.out.stays hbx)
  have BD := Lib.hid (show Blk x7 d_ 25 #[.int .i64 0, .int .i64 0, .int .i64 0, .int .i64 0, .int .i64 0, .int .i64 0, .int .u32 0, .int .u32 0, .int .u32 0, .int .u64 0, .int .u64 0, .int .u64 0, .int .u64 0] by rw [ex7, ed_]; exact blk_new1_0 _ _ _ )
  have R8 := Lib.hid (R6.out.trans (hbx.mono hz_y5))
  have hz_x7 := R8.out.size
  clear hbx ex7 ed_ R6 hz_y5
  go_wp2_with fail
  refine (pkKnown _).mono ?_
  rintro e y9 ⟨rfl, hb⟩
  have hbx : Below x7.heap.size x7 y9 := below_via (by go_grown) hb (by first | (simp; done) | (simp; omega))
  have BH := Lib.hid (BH.out.stays hbx)
  have BD := Lib.hid (BD.out.stays hbx)
  have V1 := Lib.hid (V1.out.stays hbx)
  have V2 := Lib.hid (V2.out.stays hbx)
  have R10 := Lib.hid (R8.out.trans (hbx.mono hz_x7))
  have hz_y9 := R10.out.size
  clear hb hbx  R8 hz_x7
  go_wp2
  go_ret
  exact ⟨rfl, R10.out⟩
set_option maxRecDepth 100000 in
set_option maxHeartbeats 4000000 in
theorem prb_bad_ok (h0 h1 h2 h3 h4 h5 : Int) (h6 h7 h8 h9 h10 h11 h12 : Nat) (hok : ¬ HdOk h0 h1 h2 h3 h4 h5) (A1 : Option Addr) (n1 c1 : Nat) (l1 : List UInt8) (A2 : Option Addr) (n2 c2 : Nat) (l2 : List UInt8) (w : World) (hv1 : Bytes w A1 n1 c1 l1) (hv2 : Bytes w A2 n2 c2 l2) (hn1 : n1 ≤ 100) (hn2 : n2 ≤ 200) (hw1 : 48 ≤ n2) (hw2 : dcV l2 = 3 ∨ dcV l2 = 4) :
    Calls Try.prog 7 #[.agg #[.int .i64 h0, .int .i64 h1, .int .i64 h2, .int .i64 h3, .int .i64 h4, .int .i64 h5, .int .u32 h6, .int .u32 h7, .int .u32 h8, .int .u64 h9, .int .u64 h10, .int .u64 h11, .int .u64 h12], .slice A1 n1 c1, .slice A2 n2 c2] w fun e w' => e = .returned (.bool true) ∧ Below w.heap.size w w' := by
  have V1 := Lib.hid hv1
  have V2 := Lib.hid hv2
  have L2 := Lib.hid hv2.len
  have L1 := Lib.hid hv1.len
  have c1l := hv1.le
  have c2l := hv2.le
  have c1c := hv1.cap
  have c2c := hv2.cap
  have HOK := Lib.hid hok
  clear hv1 hv2 hok
  have n1i : ¬ (n1 : Int) > 100 := by omega
  have n2i : ¬ (n2 : Int) > 200 := by omega
  go_enter Try.func7, Try.ntmps7
  go_upto_region 1 with fail
  obtain ⟨x1, h_, ex1, eh_⟩ : ∃ x1 h_, x1 = w.alloc (.cells #[.int .i64 h0, .int .i64 h1, .int .i64 h2, .int .i64 h3, .int .i64 h4, .int .i64 h5, .int .u32 h6, .int .u32 h7, .int .u32 h8, .int .u64 h9, .int .u64 h10, .int .u64 h11, .int .u64 h12] 25) ∧ h_ = w.heap.size := ⟨_, _, rfl, rfl⟩
  rw [← ex1, ← eh_]
  have hbx : Below w.heap.size w x1 := by rw [ex1]; exact below_alloc1 _ _ 
  have g_H : w.heap.size ≤ h_ := by rw [eh_]; exact Nat.le_refl _
  have V1 := Lib.hid (V1.out.stays hbx)
  have V2 := Lib.hid (V2.out.stays hbx)
  have BH := Lib.hid (show Blk x1 h_ 25 #[.int .i64 h0, .int .i64 h1, .int .i64 h2, .int .i64 h3, .int .i64 h4, .int .i64 h5, .int .u32 h6, .int .u32 h7, .int .u32 h8, .int .u64 h9, .int .u64 h10, .int .u64 h11, .int .u64 h12] by rw [ex1, eh_]; exact blk_new1_0 _ _ _ )
  have R2 := Lib.hid hbx
  have hz_x1 := R2.out.size
  clear hbx ex1 eh_
  have kH_0 : x1.cell? ⟨h_, 0, none⟩ = some (.int .i64 h0) := BH.out.cell 0
  have kH_1 : x1.cell? ⟨h_, 1, none⟩ = some (.int .i64 h1) := BH.out.cell 1
  have kH_2 : x1.cell? ⟨h_, 2, none⟩ = some (.int .i64 h2) := BH.out.cell 2
  have kH_3 : x1.cell? ⟨h_, 3, none⟩ = some (.int .i64 h3) := BH.out.cell 3
  have kH_4 : x1.cell? ⟨h_, 4, none⟩ = some (.int .i64 h4) := BH.out.cell 4
  have kH_5 : x1.cell? ⟨h_, 5, none⟩ = some (.int .i64 h5) := BH.out.cell 5
  have kH_6 : x1.cell? ⟨h_, 6, none⟩ = some (.int .u32 h6) := BH.out.cell 6
  have kH_7 : x1.cell? ⟨h_, 7, none⟩ = some (.int .u32 h7) := BH.out.cell 7
  have kH_8 : x1.cell? ⟨h_, 8, none⟩ = some (.int .u32 h8) := BH.out.cell 8
  have kH_9 : x1.cell? ⟨h_, 9, none⟩ = some (.int .u64 h9) := BH.out.cell 9
  have kH_10 : x1.cell? ⟨h_, 10, none⟩ = some (.int .u64 h10) := BH.out.cell 10
  have kH_11 : x1.cell? ⟨h_, 11, none⟩ = some (.int .u64 h11) := BH.out.cell 11
  have kH_12 : x1.cell? ⟨h_, 12, none⟩ = some (.int .u64 h12) := BH.out.cell 12
  go_wp2_with fail
  refine (encode_bad h0 h1 h2 h3 h4 h5 h6 h7 h8 h9 h10 h11 h12 _ HOK.out).mono ?_
  rintro e y3 ⟨rfl, hb⟩
  clear kH_0 kH_1 kH_2 kH_3 kH_4 kH_5 kH_6 kH_7 kH_8 kH_9 kH_10 kH_11 kH_12
  have hbx : Below x1.heap.size x1 y3 := below_via (by go_grown) hb (by first | (simp; done) | (simp; omega))
  have BH := Lib.hid (BH.out.stays hbx)
  have V1 := Lib.hid (V1.out.stays hbx)
  have V2 := Lib.hid (V2.out.stays hbx)
  have R4 := Lib.hid (R2.out.trans (hbx.mono hz_x1))
  have hz_y3 := R4.out.size
  clear hb hbx  R2 hz_x1
  go_wp2_with fail
  refine (dec_ok _ _ _ _ _ V2.out hw1 (by omega) hw2).mono ?_
  rintro e y5 ⟨Ad, cd, rfl, hd, hb⟩
  have hbx : Below y3.heap.size y3 y5 := below_via (by go_grown) hb (by first | (simp; done) | (simp; omega))
  have BH := Lib.hid (BH.out.stays hbx)
  have V1 := Lib.hid (V1.out.stays hbx)
  have V2 := Lib.hid (V2.out.stays hbx)
  have VD := Lib.hid hd
  have R6 := Lib.hid (R4.out.trans (hbx.mono hz_y3))
  have hz_y5 := R6.out.size
  clear hb hbx hd R4 hz_y3
  have hcd := VD.out.le
  have hcd2 := VD.out.cap
  have HE := Lib.hid (encode_back l2 (by rw [L2.out]; omega) hw2)
  obtain ⟨u0, hu0⟩ : ∃ u, (dcL l2) = u := ⟨_, rfl⟩
  rw [hu0] at HE ⊢
  clear hu0
  obtain ⟨u1, hu1⟩ : ∃ u, (dcV l2) = u := ⟨_, rfl⟩
  rw [hu1] at HE ⊢
  clear hu1
  obtain ⟨u2, hu2⟩ : ∃ u, (dcM l2) = u := ⟨_, rfl⟩
  rw [hu2] at HE ⊢
  clear hu2
  obtain ⟨u3, hu3⟩ : ∃ u, (byteAt l2 1) = u := ⟨_, rfl⟩
  rw [hu3] at HE ⊢
  clear hu3
  obtain ⟨u4, hu4⟩ : ∃ u, (sgnB (byteAt l2 2)) = u := ⟨_, rfl⟩
  rw [hu4] at HE ⊢
  clear hu4
  obtain ⟨u5, hu5⟩ : ∃ u, (sgnB (byteAt l2 3)) = u := ⟨_, rfl⟩
  rw [hu5] at HE ⊢
  clear hu5
  obtain ⟨u6, hu6⟩ : ∃ u, (dcU l2 4 4) = u := ⟨_, rfl⟩
  rw [hu6] at HE ⊢
  clear hu6
  obtain ⟨u7, hu7⟩ : ∃ u, (dcU l2 8 4) = u := ⟨_, rfl⟩
  rw [hu7] at HE ⊢
  clear hu7
  obtain ⟨u8, hu8⟩ : ∃ u, (dcU l2 12 4) = u := ⟨_, rfl⟩
  rw [hu8] at HE ⊢
  clear hu8
  obtain ⟨u9, hu9⟩ : ∃ u, (dcU l2 16 8) = u := ⟨_, rfl⟩
  rw [hu9] at HE ⊢
  clear hu9
  obtain ⟨u10, hu10⟩ : ∃ u, (dcU l2 24 8) = u := ⟨_, rfl⟩
  rw [hu10] at HE ⊢
  clear hu10
  obtain ⟨u11, hu11⟩ : ∃ u, (dcU l2 32 8) = u := ⟨_, rfl⟩
  rw [hu11] at HE ⊢
  clear hu11
  obtain ⟨u12, hu12⟩ : ∃ u, (dcU l2 40 8) = u := ⟨_, rfl⟩
  rw [hu12] at HE ⊢
  clear hu12
  go_upto_region 9 with fail
  obtain ⟨x7, d_, ex7, ed_⟩ : ∃ x7 d_, x7 = y5.alloc (.cells #[.int .i64 u0, .int .i64 u1, .int .i64 u2, .int .i64 u3, .int .i64 u4, .int .i64 u5, .int .u32 u6, .int .u32 u7, .int .u32 u8, .int .u64 u9, .int .u64 u10, .int .u64 u11, .int .u64 u12] 25) ∧ d_ = y5.heap.size := ⟨_, _, rfl, rfl⟩
  rw [← ex7, ← ed_]
  have hbx : Below y5.heap.size y5 x7 := by rw [ex7]; exact below_alloc1 _ _ 
  have o_H_D : h_ < d_ := by rw [ed_]; exact BH.out.lt
  have g_D : w.heap.size ≤ d_ := by rw [ed_]; exact hz_y5
  have BH := Lib.hid (BH.out.stays hbx)
  have V1 := Lib.hid (V1.out.stays hbx)
  have V2 := Lib.hid (V2.out.stays hbx)
  have VD := Lib.hid (VD.out.stays hbx)
  have BD := Lib.hid (show Blk x7 d_ 25 #[.int .i64 u0, .int .i64 u1, .int .i64 u2, .int .i64 u3, .int .i64 u4, .int .i64 u5, .int .u32 u6, .int .u32 u7, .int .u32 u8, .int .u64 u9, .int .u64 u10, .int .u64 u11, .int .u64 u12] by rw [ex7, ed_]; exact blk_new1_0 _ _ _ )
  have R8 := Lib.hid (R6.out.trans (hbx.mono hz_y5))
  have hz_x7 := R8.out.size
  clear hbx ex7 ed_ R6 hz_y5
  have kD_0 : x7.cell? ⟨d_, 0, none⟩ = some (.int .i64 u0) := BD.out.cell 0
  have kD_1 : x7.cell? ⟨d_, 1, none⟩ = some (.int .i64 u1) := BD.out.cell 1
  have kD_2 : x7.cell? ⟨d_, 2, none⟩ = some (.int .i64 u2) := BD.out.cell 2
  have kD_3 : x7.cell? ⟨d_, 3, none⟩ = some (.int .i64 u3) := BD.out.cell 3
  have kD_4 : x7.cell? ⟨d_, 4, none⟩ = some (.int .i64 u4) := BD.out.cell 4
  have kD_5 : x7.cell? ⟨d_, 5, none⟩ = some (.int .i64 u5) := BD.out.cell 5
  have kD_6 : x7.cell? ⟨d_, 6, none⟩ = some (.int .u32 u6) := BD.out.cell 6
  have kD_7 : x7.cell? ⟨d_, 7, none⟩ = some (.int .u32 u7) := BD.out.cell 7
  have kD_8 : x7.cell? ⟨d_, 8, none⟩ = some (.int .u32 u8) := BD.out.cell 8
  have kD_9 : x7.cell? ⟨d_, 9, none⟩ = some (.int .u64 u9) := BD.out.cell 9
  have kD_10 : x7.cell? ⟨d_, 10, none⟩ = some (.int .u64 u10) := BD.out.cell 10
  have kD_11 : x7.cell? ⟨d_, 11, none⟩ = some (.int .u64 u11) := BD.out.cell 11
  have kD_12 : x7.cell? ⟨d_, 12, none⟩ = some (.int .u64 u12) := BD.out.cell 12
  go_wp2_with fail
  refine (HE.out _).mono ?_
  rintro e y9 ⟨Ay, cy, rfl, hy, hb⟩
  clear kD_0 kD_1 kD_2 kD_3 kD_4 kD_5 kD_6 kD_7 kD_8 kD_9 kD_10 kD_11 kD_12
  have hbx : Below x7.heap.size x7 y9 := below_via (by go_grown) hb (by first | (simp; done) | (simp; omega))
  have BH := Lib.hid (BH.out.stays hbx)
  have BD := Lib.hid (BD.out.stays hbx)
  have V1 := Lib.hid (V1.out.stays hbx)
  have V2 := Lib.hid (V2.out.stays hbx)
  have VD := Lib.hid (VD.out.stays hbx)
  have VY := Lib.hid hy
  have R10 := Lib.hid (R8.out.trans (hbx.mono hz_x7))
  have hz_y9 := R10.out.size
  clear hb hbx hy R8 hz_x7
  have hcy := VY.out.le
  have hcy2 := VY.out.cap
  go_wp2_with fail
  refine (pkKnown _).mono ?_
  rintro e y11 ⟨rfl, hb⟩
  have hbx : Below y9.heap.size y9 y11 := below_via (by go_grown) hb (by first | (simp; done) | (simp; omega))
  have BH := Lib.hid (BH.out.stays hbx)
  have BD := Lib.hid (BD.out.stays hbx)
  have V1 := Lib.hid (V1.out.stays hbx)
  have V2 := Lib.hid (V2.out.stays hbx)
  have VD := Lib.hid (VD.out.stays hbx)
  have VY := Lib.hid (VY.out.stays hbx)
  have R12 := Lib.hid (R10.out.trans (hbx.mono hz_y9))
  have hz_y11 := R12.out.size
  clear hb hbx  R10 hz_y9
  go_wp2_with fail
  refine (refJoin_any _ _ _ [_, _] _ (lists_made2 VY.out VD.out) n2 (by rw [List.flatten_cons, List.flatten_cons, List.flatten_nil, List.append_nil, List.length_append, VY.out.len, VD.out.len]; omega) (by omega)).mono ?_
  rintro e wk ⟨Ak, ck, rfl, hj, hb⟩
  have hbx : Below y11.heap.size y11 wk := below_via (by go_grown) hb (by first | (simp; done) | (simp; omega))
  have BH := Lib.hid (BH.out.stays hbx)
  have BD := Lib.hid (BD.out.stays hbx)
  have V1 := Lib.hid (V1.out.stays hbx)
  have V2 := Lib.hid (V2.out.stays hbx)
  have VD := Lib.hid (VD.out.stays hbx)
  have VY := Lib.hid (VY.out.stays hbx)
  have VK := Lib.hid (show Bytes wk Ak n2 ck (l2.take 48 ++ l2.drop 48) from by have := own_rd hj; simpa [Bytes] using this)
  have RK := Lib.hid (R12.out.trans (hbx.mono hz_y11))
  have hz_wk := RK.out.size
  clear hb hbx hj R12 hz_y11
  go_wp2_with fail
  refine (refSame_true VK.out V2.out (List.take_append_drop _ _)).mono ?_
  rintro e q_ ⟨rfl, rfl⟩
  go_wp2
  go_ret
  exact ⟨rfl, RK.out⟩
set_option maxRecDepth 100000 in
set_option maxHeartbeats 4000000 in
theorem prb_ok_short (l v m s : Nat) (p q : Int) (h6 h7 h8 h9 h10 h11 h12 : Nat) (hok : HdOk l v m s p q) (z6 : h6 < 4294967296) (z7 : h7 < 4294967296) (z8 : h8 < 4294967296) (z9 : h9 < 18446744073709551616) (z10 : h10 < 18446744073709551616) (z11 : h11 < 18446744073709551616) (z12 : h12 < 18446744073709551616) (A1 : Option Addr) (n1 c1 : Nat) (l1 : List UInt8) (A2 : Option Addr) (n2 c2 : Nat) (l2 : List UInt8) (w : World) (hv1 : Bytes w A1 n1 c1 l1) (hv2 : Bytes w A2 n2 c2 l2) (hn1 : n1 ≤ 100) (hn2 : n2 ≤ 200) (hw : n2 < 48) :
    Calls Try.prog 7 #[.agg #[.int .i64 l, .int .i64 v, .int .i64 m, .int .i64 s, .int .i64 p, .int .i64 q, .int .u32 h6, .int .u32 h7, .int .u32 h8, .int .u64 h9, .int .u64 h10, .int .u64 h11, .int .u64 h12], .slice A1 n1 c1, .slice A2 n2 c2] w fun e w' => e = .returned (.bool true) ∧ Below w.heap.size w w' := by
  have V1 := Lib.hid hv1
  have V2 := Lib.hid hv2
  have L2 := Lib.hid hv2.len
  have L1 := Lib.hid hv1.len
  have c1l := hv1.le
  have c2l := hv2.le
  have c1c := hv1.cap
  have c2c := hv2.cap
  have HOK := Lib.hid hok
  clear hv1 hv2 hok
  have n1i : ¬ (n1 : Int) > 100 := by omega
  have n2i : ¬ (n2 : Int) > 200 := by omega
  go_enter Try.func7, Try.ntmps7
  go_upto_region 1 with fail
  obtain ⟨x1, h_, ex1, eh_⟩ : ∃ x1 h_, x1 = w.alloc (.cells #[.int .i64 l, .int .i64 v, .int .i64 m, .int .i64 s, .int .i64 p, .int .i64 q, .int .u32 h6, .int .u32 h7, .int .u32 h8, .int .u64 h9, .int .u64 h10, .int .u64 h11, .int .u64 h12] 25) ∧ h_ = w.heap.size := ⟨_, _, rfl, rfl⟩
  rw [← ex1, ← eh_]
  have hbx : Below w.heap.size w x1 := by rw [ex1]; exact below_alloc1 _ _ 
  have g_H : w.heap.size ≤ h_ := by rw [eh_]; exact Nat.le_refl _
  have V1 := Lib.hid (V1.out.stays hbx)
  have V2 := Lib.hid (V2.out.stays hbx)
  have BH := Lib.hid (show Blk x1 h_ 25 #[.int .i64 l, .int .i64 v, .int .i64 m, .int .i64 s, .int .i64 p, .int .i64 q, .int .u32 h6, .int .u32 h7, .int .u32 h8, .int .u64 h9, .int .u64 h10, .int .u64 h11, .int .u64 h12] by rw [ex1, eh_]; exact blk_new1_0 _ _ _ )
  have R2 := Lib.hid hbx
  have hz_x1 := R2.out.size
  clear hbx ex1 eh_
  have kH_0 : x1.cell? ⟨h_, 0, none⟩ = some (.int .i64 l) := BH.out.cell 0
  have kH_1 : x1.cell? ⟨h_, 1, none⟩ = some (.int .i64 v) := BH.out.cell 1
  have kH_2 : x1.cell? ⟨h_, 2, none⟩ = some (.int .i64 m) := BH.out.cell 2
  have kH_3 : x1.cell? ⟨h_, 3, none⟩ = some (.int .i64 s) := BH.out.cell 3
  have kH_4 : x1.cell? ⟨h_, 4, none⟩ = some (.int .i64 p) := BH.out.cell 4
  have kH_5 : x1.cell? ⟨h_, 5, none⟩ = some (.int .i64 q) := BH.out.cell 5
  have kH_6 : x1.cell? ⟨h_, 6, none⟩ = some (.int .u32 h6) := BH.out.cell 6
  have kH_7 : x1.cell? ⟨h_, 7, none⟩ = some (.int .u32 h7) := BH.out.cell 7
  have kH_8 : x1.cell? ⟨h_, 8, none⟩ = some (.int .u32 h8) := BH.out.cell 8
  have kH_9 : x1.cell? ⟨h_, 9, none⟩ = some (.int .u64 h9) := BH.out.cell 9
  have kH_10 : x1.cell? ⟨h_, 10, none⟩ = some (.int .u64 h10) := BH.out.cell 10
  have kH_11 : x1.cell? ⟨h_, 11, none⟩ = some (.int .u64 h11) := BH.out.cell 11
  have kH_12 : x1.cell? ⟨h_, 12, none⟩ = some (.int .u64 h12) := BH.out.cell 12
  go_wp2_with fail
  refine (encode_ok l v m s p q h6 h7 h8 h9 h10 h11 h12 _ HOK.out z6 z7 z8 z9 z10 z11 z12).mono ?_
  rintro e y3 ⟨Ax, cx, rfl, hx, hb⟩
  clear kH_0 kH_1 kH_2 kH_3 kH_4 kH_5 kH_6 kH_7 kH_8 kH_9 kH_10 kH_11 kH_12
  have hbx : Below x1.heap.size x1 y3 := below_via (by go_grown) hb (by first | (simp; done) | (simp; omega))
  have BH := Lib.hid (BH.out.stays hbx)
  have V1 := Lib.hid (V1.out.stays hbx)
  have V2 := Lib.hid (V2.out.stays hbx)
  have VX := Lib.hid hx
  have R4 := Lib.hid (R2.out.trans (hbx.mono hz_x1))
  have hz_y3 := R4.out.size
  clear hb hbx hx R2 hz_x1
  have hcx := VX.out.le
  have hcx2 := VX.out.cap
  have LX := Lib.hid VX.out.len
  go_upto_region 5 with fail
  go_wp2_with fail
  refine (refJoin_any _ _ _ [_, l1] _ (lists_made2 VX.out V1.out) (48 + n1) (by rw [List.flatten_cons, List.flatten_cons, List.flatten_nil, List.append_nil, List.length_append, LX.out, L1.out]) (by omega)).mono ?_
  rintro e wj ⟨Aj, cj, rfl, hj, hb⟩
  have hbx : Below y3.heap.size y3 wj := below_via (by go_grown) hb (by first | (simp; done) | (simp; omega))
  have BH := Lib.hid (BH.out.stays hbx)
  have V1 := Lib.hid (V1.out.stays hbx)
  have V2 := Lib.hid (V2.out.stays hbx)
  have VX := Lib.hid (VX.out.stays hbx)
  have VJ := Lib.hid (show Bytes wj Aj (48 + n1) cj (hdBytes l v m s p q h6 h7 h8 h9 h10 h11 h12 ++ l1) from by have := own_rd hj; simpa [Bytes] using this)
  have RJ := Lib.hid (R4.out.trans (hbx.mono hz_y3))
  have hz_wj := RJ.out.size
  clear hb hbx hj R4 hz_y3
  go_wp2_with fail
  refine (dec_join l v m s p q h6 h7 h8 h9 h10 h11 h12 l1 HOK.out z6 z7 z8 z9 z10 z11 z12 _ _ _ _ VJ.out (by omega) n1 L1.out).mono ?_
  rintro e y5 ⟨Ar, cr, rfl, hr, hb⟩
  have hbx : Below wj.heap.size wj y5 := below_via (by go_grown) hb (by first | (simp; done) | (simp; omega))
  have BH := Lib.hid (BH.out.stays hbx)
  have V1 := Lib.hid (V1.out.stays hbx)
  have V2 := Lib.hid (V2.out.stays hbx)
  have VX := Lib.hid (VX.out.stays hbx)
  have VJ := Lib.hid (VJ.out.stays hbx)
  have VR := Lib.hid hr
  have R6 := Lib.hid (RJ.out.trans (hbx.mono hz_wj))
  have hz_y5 := R6.out.size
  clear hb hbx hr RJ hz_wj
  go_upto_region 6 with fail
  obtain ⟨x7, g_, ex7, eg_⟩ : ∃ x7 g_, x7 = y5.alloc (.cells #[.int .i64 l, .int .i64 v, .int .i64 m, .int .i64 s, .int .i64 p, .int .i64 q, .int .u32 h6, .int .u32 h7, .int .u32 h8, .int .u64 h9, .int .u64 h10, .int .u64 h11, .int .u64 h12] 25) ∧ g_ = y5.heap.size := ⟨_, _, rfl, rfl⟩
  rw [← ex7, ← eg_]
  have hbx : Below y5.heap.size y5 x7 := by rw [ex7]; exact below_alloc1 _ _ 
  have o_H_G : h_ < g_ := by rw [eg_]; exact BH.out.lt
  have g_G : w.heap.size ≤ g_ := by rw [eg_]; exact hz_y5
  have BH := Lib.hid (BH.out.stays hbx)
  have V1 := Lib.hid (V1.out.stays hbx)
  have V2 := Lib.hid (V2.out.stays hbx)
  have VX := Lib.hid (VX.out.stays hbx)
  have VJ := Lib.hid (VJ.out.stays hbx)
  have VR := Lib.hid (VR.out.stays hbx)
  have BG := Lib.hid (show Blk x7 g_ 25 #[.int .i64 l, .int .i64 v, .int .i64 m, .int .i64 s, .int .i64 p, .int .i64 q, .int .u32 h6, .int .u32 h7, .int .u32 h8, .int .u64 h9, .int .u64 h10, .int .u64 h11, .int .u64 h12] by rw [ex7, eg_]; exact blk_new1_0 _ _ _ )
  have R8 := Lib.hid (R6.out.trans (hbx.mono hz_y5))
  have hz_x7 := R8.out.size
  clear hbx ex7 eg_ R6 hz_y5
  have kG_0 : x7.cell? ⟨g_, 0, none⟩ = some (.int .i64 l) := BG.out.cell 0
  have kG_1 : x7.cell? ⟨g_, 1, none⟩ = some (.int .i64 v) := BG.out.cell 1
  have kG_2 : x7.cell? ⟨g_, 2, none⟩ = some (.int .i64 m) := BG.out.cell 2
  have kG_3 : x7.cell? ⟨g_, 3, none⟩ = some (.int .i64 s) := BG.out.cell 3
  have kG_4 : x7.cell? ⟨g_, 4, none⟩ = some (.int .i64 p) := BG.out.cell 4
  have kG_5 : x7.cell? ⟨g_, 5, none⟩ = some (.int .i64 q) := BG.out.cell 5
  have kG_6 : x7.cell? ⟨g_, 6, none⟩ = some (.int .u32 h6) := BG.out.cell 6
  have kG_7 : x7.cell? ⟨g_, 7, none⟩ = some (.int .u32 h7) := BG.out.cell 7
  have kG_8 : x7.cell? ⟨g_, 8, none⟩ = some (.int .u32 h8) := BG.out.cell 8
  have kG_9 : x7.cell? ⟨g_, 9, none⟩ = some (.int .u64 h9) := BG.out.cell 9
  have kG_10 : x7.cell? ⟨g_, 10, none⟩ = some (.int .u64 h10) := BG.out.cell 10
  have kG_11 : x7.cell? ⟨g_, 11, none⟩ = some (.int .u64 h11) := BG.out.cell 11
  have kG_12 : x7.cell? ⟨g_, 12, none⟩ = some (.int .u64 h12) := BG.out.cell 12
  have kH_0 : x7.cell? ⟨h_, 0, none⟩ = some (.int .i64 l) := BH.out.cell 0
  have kH_1 : x7.cell? ⟨h_, 1, none⟩ = some (.int .i64 v) := BH.out.cell 1
  have kH_2 : x7.cell? ⟨h_, 2, none⟩ = some (.int .i64 m) := BH.out.cell 2
  have kH_3 : x7.cell? ⟨h_, 3, none⟩ = some (.int .i64 s) := BH.out.cell 3
  have kH_4 : x7.cell? ⟨h_, 4, none⟩ = some (.int .i64 p) := BH.out.cell 4
  have kH_5 : x7.cell? ⟨h_, 5, none⟩ = some (.int .i64 q) := BH.out.cell 5
  have kH_6 : x7.cell? ⟨h_, 6, none⟩ = some (.int .u32 h6) := BH.out.cell 6
  have kH_7 : x7.cell? ⟨h_, 7, none⟩ = some (.int .u32 h7) := BH.out.cell 7
  have kH_8 : x7.cell? ⟨h_, 8, none⟩ = some (.int .u32 h8) := BH.out.cell 8
  have kH_9 : x7.cell? ⟨h_, 9, none⟩ = some (.int .u64 h9) := BH.out.cell 9
  have kH_10 : x7.cell? ⟨h_, 10, none⟩ = some (.int .u64 h10) := BH.out.cell 10
  have kH_11 : x7.cell? ⟨h_, 11, none⟩ = some (.int .u64 h11) := BH.out.cell 11
  have kH_12 : x7.cell? ⟨h_, 12, none⟩ = some (.int .u64 h12) := BH.out.cell 12
  go_wp2_with fail
  refine (refSame_true VR.out V1.out rfl).mono ?_
  rintro e q_ ⟨rfl, rfl⟩
  go_wp2_with fail
  refine (dec_short _ _ _ _ _ V2.out hw).mono ?_
  rintro e y9 ⟨rfl, hb⟩
  clear kG_0 kG_1 kG_2 kG_3 kG_4 kG_5 kG_6 kG_7 kG_8 kG_9 kG_10 kG_11 kG_12 kH_0 kH_1 kH_2 kH_3 kH_4 kH_5 kH_6 kH_7 kH_8 kH_9 kH_10 kH_11 kH_12
  have hbx : Below x7.heap.size x7 y9 := below_via (by go_grown) hb (by first | (simp; done) | (simp; omega))
  have BH := Lib.hid (BH.out.stays hbx)
  have BG := Lib.hid (BG.out.stays hbx)
  have V1 := Lib.hid (V1.out.stays hbx)
  have V2 := Lib.hid (V2.out.stays hbx)
  have VX := Lib.hid (VX.out.stays hbx)
  have VJ := Lib.hid (VJ.out.stays hbx)
  have VR := Lib.hid (VR.out.stays hbx)
  have R10 := Lib.hid (R8.out.trans (hbx.mono hz_x7))
  have hz_y9 := R10.out.size
  clear hb hbx  R8 hz_x7
  go_upto_region 9 with fail
  obtain ⟨x11, d_, ex11, ed_⟩ : ∃ x11 d_, x11 = y9.alloc (.cells #[.int .i64 0, .int .i64 0, .int .i64 0, .int .i64 0, .int .i64 0, .int .i64 0, .int .u32 0, .int .u32 0, .int .u32 0, .int .u64 0, .int .u64 0, .int .u64 0, .int .u64 0] 25) ∧ d_ = y9.heap.size := ⟨_, _, rfl, rfl⟩
  rw [← ex11, ← ed_]
  have hbx : Below y9.heap.size y9 x11 := by rw [ex11]; exact below_alloc1 _ _ 
  have o_H_D : h_ < d_ := by rw [ed_]; exact BH.out.lt
  have o_G_D : g_ < d_ := by rw [ed_]; exact BG.out.lt
  have g_D : w.heap.size ≤ d_ := by rw [ed_]; exact hz_y9
  have BH := Lib.hid (BH.out.stays hbx)
  have BG := Lib.hid (BG.out.stays hbx)
  have V1 := Lib.hid (V1.out.stays hbx)
  have V2 := Lib.hid (V2.out.stays hbx)
  have VX := Lib.hid (VX.out.stays hbx)
  have VJ := Lib.hid (VJ.out.stays hbx)
  have VR := Lib.hid (VR.out.stays hbx)
  have BD := Lib.hid (show Blk x11 d_ 25 #[.int .i64 0, .int .i64 0, .int .i64 0, .int .i64 0, .int .i64 0, .int .i64 0, .int .u32 0, .int .u32 0, .int .u32 0, .int .u64 0, .int .u64 0, .int .u64 0, .int .u64 0] by rw [ex11, ed_]; exact blk_new1_0 _ _ _ )
  have R12 := Lib.hid (R10.out.trans (hbx.mono hz_y9))
  have hz_x11 := R12.out.size
  clear hbx ex11 ed_ R10 hz_y9
  go_wp2_with fail
  refine (pkKnown _).mono ?_
  rintro e y13 ⟨rfl, hb⟩
  have hbx : Below x11.heap.size x11 y13 := below_via (by go_grown) hb (by first | (simp; done) | (simp; omega))
  have BH := Lib.hid (BH.out.stays hbx)
  have BG := Lib.hid (BG.out.stays hbx)
  have BD := Lib.hid (BD.out.stays hbx)
  have V1 := Lib.hid (V1.out.stays hbx)
  have V2 := Lib.hid (V2.out.stays hbx)
  have VX := Lib.hid (VX.out.stays hbx)
  have VJ := Lib.hid (VJ.out.stays hbx)
  have VR := Lib.hid (VR.out.stays hbx)
  have R14 := Lib.hid (R12.out.trans (hbx.mono hz_x11))
  have hz_y13 := R14.out.size
  clear hb hbx  R12 hz_x11
  go_wp2
  go_ret
  exact ⟨rfl, R14.out⟩
set_option maxRecDepth 100000 in
set_option maxHeartbeats 4000000 in
theorem prb_ok_form (l v m s : Nat) (p q : Int) (h6 h7 h8 h9 h10 h11 h12 : Nat) (hok : HdOk l v m s p q) (z6 : h6 < 4294967296) (z7 : h7 < 4294967296) (z8 : h8 < 4294967296) (z9 : h9 < 18446744073709551616) (z10 : h10 < 18446744073709551616) (z11 : h11 < 18446744073709551616) (z12 : h12 < 18446744073709551616) (A1 : Option Addr) (n1 c1 : Nat) (l1 : List UInt8) (A2 : Option Addr) (n2 c2 : Nat) (l2 : List UInt8) (w : World) (hv1 : Bytes w A1 n1 c1 l1) (hv2 : Bytes w A2 n2 c2 l2) (hn1 : n1 ≤ 100) (hn2 : n2 ≤ 200) (hw1 : 48 ≤ n2) (hw2 : ¬ (dcV l2 = 3 ∨ dcV l2 = 4)) :
    Calls Try.prog 7 #[.agg #[.int .i64 l, .int .i64 v, .int .i64 m, .int .i64 s, .int .i64 p, .int .i64 q, .int .u32 h6, .int .u32 h7, .int .u32 h8, .int .u64 h9, .int .u64 h10, .int .u64 h11, .int .u64 h12], .slice A1 n1 c1, .slice A2 n2 c2] w fun e w' => e = .returned (.bool true) ∧ Below w.heap.size w w' := by
  have V1 := Lib.hid hv1
  have V2 := Lib.hid hv2
  have L2 := Lib.hid hv2.len
  have L1 := Lib.hid hv1.len
  have c1l := hv1.le
  have c2l := hv2.le
  have c1c := hv1.cap
  have c2c := hv2.cap
  have HOK := Lib.hid hok
  clear hv1 hv2 hok
  have n1i : ¬ (n1 : Int) > 100 := by omega
  have n2i : ¬ (n2 : Int) > 200 := by omega
  go_enter Try.func7, Try.ntmps7
  go_upto_region 1 with fail
  obtain ⟨x1, h_, ex1, eh_⟩ : ∃ x1 h_, x1 = w.alloc (.cells #[.int .i64 l, .int .i64 v, .int .i64 m, .int .i64 s, .int .i64 p, .int .i64 q, .int .u32 h6, .int .u32 h7, .int .u32 h8, .int .u64 h9, .int .u64 h10, .int .u64 h11, .int .u64 h12] 25) ∧ h_ = w.heap.size := ⟨_, _, rfl, rfl⟩
  rw [← ex1, ← eh_]
  have hbx : Below w.heap.size w x1 := by rw [ex1]; exact below_alloc1 _ _ 
  have g_H : w.heap.size ≤ h_ := by rw [eh_]; exact Nat.le_refl _
  have V1 := Lib.hid (V1.out.stays hbx)
  have V2 := Lib.hid (V2.out.stays hbx)
  have BH := Lib.hid (show Blk x1 h_ 25 #[.int .i64 l, .int .i64 v, .int .i64 m, .int .i64 s, .int .i64 p, .int .i64 q, .int .u32 h6, .int .u32 h7, .int .u32 h8, .int .u64 h9, .int .u64 h10, .int .u64 h11, .int .u64 h12] by rw [ex1, eh_]; exact blk_new1_0 _ _ _ )
  have R2 := Lib.hid hbx
  have hz_x1 := R2.out.size
  clear hbx ex1 eh_
  have kH_0 : x1.cell? ⟨h_, 0, none⟩ = some (.int .i64 l) := BH.out.cell 0
  have kH_1 : x1.cell? ⟨h_, 1, none⟩ = some (.int .i64 v) := BH.out.cell 1
  have kH_2 : x1.cell? ⟨h_, 2, none⟩ = some (.int .i64 m) := BH.out.cell 2
  have kH_3 : x1.cell? ⟨h_, 3, none⟩ = some (.int .i64 s) := BH.out.cell 3
  have kH_4 : x1.cell? ⟨h_, 4, none⟩ = some (.int .i64 p) := BH.out.cell 4
  have kH_5 : x1.cell? ⟨h_, 5, none⟩ = some (.int .i64 q) := BH.out.cell 5
  have kH_6 : x1.cell? ⟨h_, 6, none⟩ = some (.int .u32 h6) := BH.out.cell 6
  have kH_7 : x1.cell? ⟨h_, 7, none⟩ = some (.int .u32 h7) := BH.out.cell 7
  have kH_8 : x1.cell? ⟨h_, 8, none⟩ = some (.int .u32 h8) := BH.out.cell 8
  have kH_9 : x1.cell? ⟨h_, 9, none⟩ = some (.int .u64 h9) := BH.out.cell 9
  have kH_10 : x1.cell? ⟨h_, 10, none⟩ = some (.int .u64 h10) := BH.out.cell 10
  have kH_11 : x1.cell? ⟨h_, 11, none⟩ = some (.int .u64 h11) := BH.out.cell 11
  have kH_12 : x1.cell? ⟨h_, 12, none⟩ = some (.int .u64 h12) := BH.out.cell 12
  go_wp2_with fail
  refine (encode_ok l v m s p q h6 h7 h8 h9 h10 h11 h12 _ HOK.out z6 z7 z8 z9 z10 z11 z12).mono ?_
  rintro e y3 ⟨Ax, cx, rfl, hx, hb⟩
  clear kH_0 kH_1 kH_2 kH_3 kH_4 kH_5 kH_6 kH_7 kH_8 kH_9 kH_10 kH_11 kH_12
  have hbx : Below x1.heap.size x1 y3 := below_via (by go_grown) hb (by first | (simp; done) | (simp; omega))
  have BH := Lib.hid (BH.out.stays hbx)
  have V1 := Lib.hid (V1.out.stays hbx)
  have V2 := Lib.hid (V2.out.stays hbx)
  have VX := Lib.hid hx
  have R4 := Lib.hid (R2.out.trans (hbx.mono hz_x1))
  have hz_y3 := R4.out.size
  clear hb hbx hx R2 hz_x1
  have hcx := VX.out.le
  have hcx2 := VX.out.cap
  have LX := Lib.hid VX.out.len
  go_upto_region 5 with fail
  go_wp2_with fail
  refine (refJoin_any _ _ _ [_, l1] _ (lists_made2 VX.out V1.out) (48 + n1) (by rw [List.flatten_cons, List.flatten_cons, List.flatten_nil, List.append_nil, List.length_append, LX.out, L1.out]) (by omega)).mono ?_
  rintro e wj ⟨Aj, cj, rfl, hj, hb⟩
  have hbx : Below y3.heap.size y3 wj := below_via (by go_grown) hb (by first | (simp; done) | (simp; omega))
  have BH := Lib.hid (BH.out.stays hbx)
  have V1 := Lib.hid (V1.out.stays hbx)
  have V2 := Lib.hid (V2.out.stays hbx)
  have VX := Lib.hid (VX.out.stays hbx)
  have VJ := Lib.hid (show Bytes wj Aj (48 + n1) cj (hdBytes l v m s p q h6 h7 h8 h9 h10 h11 h12 ++ l1) from by have := own_rd hj; simpa [Bytes] using this)
  have RJ := Lib.hid (R4.out.trans (hbx.mono hz_y3))
  have hz_wj := RJ.out.size
  clear hb hbx hj R4 hz_y3
  go_wp2_with fail
  refine (dec_join l v m s p q h6 h7 h8 h9 h10 h11 h12 l1 HOK.out z6 z7 z8 z9 z10 z11 z12 _ _ _ _ VJ.out (by omega) n1 L1.out).mono ?_
  rintro e y5 ⟨Ar, cr, rfl, hr, hb⟩
  have hbx : Below wj.heap.size wj y5 := below_via (by go_grown) hb (by first | (simp; done) | (simp; omega))
  have BH := Lib.hid (BH.out.stays hbx)
  have V1 := Lib.hid (V1.out.stays hbx)
  have V2 := Lib.hid (V2.out.stays hbx)
  have VX := Lib.hid (VX.out.stays hbx)
  have VJ := Lib.hid (VJ.out.stays hbx)
  have VR := Lib.hid hr
  have R6 := Lib.hid (RJ.out.trans (hbx.mono hz_wj))
  have hz_y5 := R6.out.size
  clear hb hbx hr RJ hz_wj
  go_upto_region 6 with fail
  obtain ⟨x7, g_, ex7, eg_⟩ : ∃ x7 g_, x7 = y5.alloc (.cells #[.int .i64 l, .int .i64 v, .int .i64 m, .int .i64 s, .int .i64 p, .int .i64 q, .int .u32 h6, .int .u32 h7, .int .u32 h8, .int .u64 h9, .int .u64 h10, .int .u64 h11, .int .u64 h12] 25) ∧ g_ = y5.heap.size := ⟨_, _, rfl, rfl⟩
  rw [← ex7, ← eg_]
  have hbx : Below y5.heap.size y5 x7 := by rw [ex7]; exact below_alloc1 _ _ 
  have o_H_G : h_ < g_ := by rw [eg_]; exact BH.out.lt
  have g_G : w.heap.size ≤ g_ := by rw [eg_]; exact hz_y5
  have BH := Lib.hid (BH.out.stays hbx)
  have V1 := Lib.hid (V1.out.stays hbx)
  have V2 := Lib.hid (V2.out.stays hbx)
  have VX := Lib.hid (VX.out.stays hbx)
  have VJ := Lib.hid (VJ.out.stays hbx)
  have VR := Lib.hid (VR.out.stays hbx)
  have BG := Lib.hid (show Blk x7 g_ 25 #[.int .i64 l, .int .i64 v, .int .i64 m, .int .i64 s, .int .i64 p, .int .i64 q, .int .u32 h6, .int .u32 h7, .int .u32 h8, .int .u64 h9, .int .u64 h10, .int .u64 h11, .int .u64 h12] by rw [ex7, eg_]; exact blk_new1_0 _ _ _ )
  have R8 := Lib.hid (R6.out.trans (hbx.mono hz_y5))
  have hz_x7 := R8.out.size
  clear hbx ex7 eg_ R6 hz_y5
  have kG_0 : x7.cell? ⟨g_, 0, none⟩ = some (.int .i64 l) := BG.out.cell 0
  have kG_1 : x7.cell? ⟨g_, 1, none⟩ = some (.int .i64 v) := BG.out.cell 1
  have kG_2 : x7.cell? ⟨g_, 2, none⟩ = some (.int .i64 m) := BG.out.cell 2
  have kG_3 : x7.cell? ⟨g_, 3, none⟩ = some (.int .i64 s) := BG.out.cell 3
  have kG_4 : x7.cell? ⟨g_, 4, none⟩ = some (.int .i64 p) := BG.out.cell 4
  have kG_5 : x7.cell? ⟨g_, 5, none⟩ = some (.int .i64 q) := BG.out.cell 5
  have kG_6 : x7.cell? ⟨g_, 6, none⟩ = some (.int .u32 h6) := BG.out.cell 6
  have kG_7 : x7.cell? ⟨g_, 7, none⟩ = some (.int .u32 h7) := BG.out.cell 7
  have kG_8 : x7.cell? ⟨g_, 8, none⟩ = some (.int .u32 h8) := BG.out.cell 8
  have kG_9 : x7.cell? ⟨g_, 9, none⟩ = some (.int .u64 h9) := BG.out.cell 9
  have kG_10 : x7.cell? ⟨g_, 10, none⟩ = some (.int .u64 h10) := BG.out.cell 10
  have kG_11 : x7.cell? ⟨g_, 11, none⟩ = some (.int .u64 h11) := BG.out.cell 11
  have kG_12 : x7.cell? ⟨g_, 12, none⟩ = some (.int .u64 h12) := BG.out.cell 12
  have kH_0 : x7.cell? ⟨h_, 0, none⟩ = some (.int .i64 l) := BH.out.cell 0
  have kH_1 : x7.cell? ⟨h_, 1, none⟩ = some (.int .i64 v) := BH.out.cell 1
  have kH_2 : x7.cell? ⟨h_, 2, none⟩ = some (.int .i64 m) := BH.out.cell 2
  have kH_3 : x7.cell? ⟨h_, 3, none⟩ = some (.int .i64 s) := BH.out.cell 3
  have kH_4 : x7.cell? ⟨h_, 4, none⟩ = some (.int .i64 p) := BH.out.cell 4
  have kH_5 : x7.cell? ⟨h_, 5, none⟩ = some (.int .i64 q) := BH.out.cell 5
  have kH_6 : x7.cell? ⟨h_, 6, none⟩ = some (.int .u32 h6) := BH.out.cell 6
  have kH_7 : x7.cell? ⟨h_, 7, none⟩ = some (.int .u32 h7) := BH.out.cell 7
  have kH_8 : x7.cell? ⟨h_, 8, none⟩ = some (.int .u32 h8) := BH.out.cell 8
  have kH_9 : x7.cell? ⟨h_, 9, none⟩ = some (.int .u64 h9) := BH.out.cell 9
  have kH_10 : x7.cell? ⟨h_, 10, none⟩ = some (.int .u64 h10) := BH.out.cell 10
  have kH_11 : x7.cell? ⟨h_, 11, none⟩ = some (.int .u64 h11) := BH.out.cell 11
  have kH_12 : x7.cell? ⟨h_, 12, none⟩ = some (.int .u64 h12) := BH.out.cell 12
  go_wp2_with fail
  refine (refSame_true VR.out V1.out rfl).mono ?_
  rintro e q_ ⟨rfl, rfl⟩
  go_wp2_with fail
  refine (dec_form _ _ _ _ _ V2.out hw1 (by omega) hw2).mono ?_
  rintro e y9 ⟨rfl, hb⟩
  clear kG_0 kG_1 kG_2 kG_3 kG_4 kG_5 kG_6 kG_7 kG_8 kG_9 kG_10 kG_11 kG_12 kH_0 kH_1 kH_2 kH_3 kH_4 kH_5 kH_6 kH_7 kH_8 kH_9 kH_10 kH_11 kH_12
  have hbx : Below x7.heap.size x7 y9 := below_via (by go_grown) hb (by first | (simp; done) | (simp; omega))
  have BH := Lib.hid (BH.out.stays hbx)
  have BG := Lib.hid (BG.out.stays hbx)
  have V1 := Lib.hid (V1.out.stays hbx)
  have V2 := Lib.hid (V2.out.stays hbx)
  have VX := Lib.hid (VX.out.stays hbx)
  have VJ := Lib.hid (VJ.out.stays hbx)
  have VR := Lib.hid (VR.out.stays hbx)
  have R10 := Lib.hid (R8.out.trans (hbx.mono hz_x7))
  have hz_y9 := R10.out.size
  clear hb hbx  R8 hz_x7
  go_upto_region 9 with fail
  obtain ⟨x11, d_, ex11, ed_⟩ : ∃ x11 d_, x11 = y9.alloc (.cells #[.int .i64 0, .int .i64 0, .int .i64 0, .int .i64 0, .int .i64 0, .int .i64 0, .int .u32 0, .int .u32 0, .int .u32 0, .int .u64 0, .int .u64 0, .int .u64 0, .int .u64 0] 25) ∧ d_ = y9.heap.size := ⟨_, _, rfl, rfl⟩
  rw [← ex11, ← ed_]
  have hbx : Below y9.heap.size y9 x11 := by rw [ex11]; exact below_alloc1 _ _ 
  have o_H_D : h_ < d_ := by rw [ed_]; exact BH.out.lt
  have o_G_D : g_ < d_ := by rw [ed_]; exact BG.out.lt
  have g_D : w.heap.size ≤ d_ := by rw [ed_]; exact hz_y9
  have BH := Lib.hid (BH.out.stays hbx)
  have BG := Lib.hid (BG.out.stays hbx)
  have V1 := Lib.hid (V1.out.stays hbx)
  have V2 := Lib.hid (V2.out.stays hbx)
  have VX := Lib.hid (VX.out.stays hbx)
  have VJ := Lib.hid (VJ.out.stays hbx)
  have VR := Lib.hid (VR.out.stays hbx)
  have BD := Lib.hid (show Blk x11 d_ 25 #[.int .i64 0, .int .i64 0, .int .i64 0, .int .i64 0, .int .i64 0, .int .i64 0, .int .u32 0, .int .u32 0, .int .u32 0, .int .u64 0, .int .u64 0, .int .u64 0, .int .u64 0] by rw [ex11, ed_]; exact blk_new1_0 _ _ _ )
  have R12 := Lib.hid (R10.out.trans (hbx.mono hz_y9))
  have hz_x11 := R12.out.size
  clear hbx ex11 ed_ R10 hz_y9
  go_wp2_with fail
  refine (pkKnown _).mono ?_
  rintro e y13 ⟨rfl, hb⟩
  have hbx : Below x11.heap.size x11 y13 := below_via (by go_grown) hb (by first | (simp; done) | (simp; omega))
  have BH := Lib.hid (BH.out.stays hbx)
  have BG := Lib.hid (BG.out.stays hbx)
  have BD := Lib.hid (BD.out.stays hbx)
  have V1 := Lib.hid (V1.out.stays hbx)
  have V2 := Lib.hid (V2.out.stays hbx)
  have VX := Lib.hid (VX.out.stays hbx)
  have VJ := Lib.hid (VJ.out.stays hbx)
  have VR := Lib.hid (VR.out.stays hbx)
  have R14 := Lib.hid (R12.out.trans (hbx.mono hz_x11))
  have hz_y13 := R14.out.size
  clear hb hbx  R12 hz_x11
  go_wp2
  go_ret
  exact ⟨rfl, R14.out⟩
set_option maxRecDepth 100000 in
set_option maxHeartbeats 4000000 in
theorem prb_ok_ok (l v m s : Nat) (p q : Int) (h6 h7 h8 h9 h10 h11 h12 : Nat) (hok : HdOk l v m s p q) (z6 : h6 < 4294967296) (z7 : h7 < 4294967296) (z8 : h8 < 4294967296) (z9 : h9 < 18446744073709551616) (z10 : h10 < 18446744073709551616) (z11 : h11 < 18446744073709551616) (z12 : h12 < 18446744073709551616) (A1 : Option Addr) (n1 c1 : Nat) (l1 : List UInt8) (A2 : Option Addr) (n2 c2 : Nat) (l2 : List UInt8) (w : World) (hv1 : Bytes w A1 n1 c1 l1) (hv2 : Bytes w A2 n2 c2 l2) (hn1 : n1 ≤ 100) (hn2 : n2 ≤ 200) (hw1 : 48 ≤ n2) (hw2 : dcV l2 = 3 ∨ dcV l2 = 4) :
    Calls Try.prog 7 #[.agg #[.int .i64 l, .int .i64 v, .int .i64 m, .int .i64 s, .int .i64 p, .int .i64 q, .int .u32 h6, .int .u32 h7, .int .u32 h8, .int .u64 h9, .int .u64 h10, .int .u64 h11, .int .u64 h12], .slice A1 n1 c1, .slice A2 n2 c2] w fun e w' => e = .returned (.bool true) ∧ Below w.heap.size w w' := by
  have V1 := Lib.hid hv1
  have V2 := Lib.hid hv2
  have L2 := Lib.hid hv2.len
  have L1 := Lib.hid hv1.len
  have c1l := hv1.le
  have c2l := hv2.le
  have c1c := hv1.cap
  have c2c := hv2.cap
  have HOK := Lib.hid hok
  clear hv1 hv2 hok
  have n1i : ¬ (n1 : Int) > 100 := by omega
  have n2i : ¬ (n2 : Int) > 200 := by omega
  go_enter Try.func7, Try.ntmps7
  go_upto_region 1 with fail
  obtain ⟨x1, h_, ex1, eh_⟩ : ∃ x1 h_, x1 = w.alloc (.cells #[.int .i64 l, .int .i64 v, .int .i64 m, .int .i64 s, .int .i64 p, .int .i64 q, .int .u32 h6, .int .u32 h7, .int .u32 h8, .int .u64 h9, .int .u64 h10, .int .u64 h11, .int .u64 h12] 25) ∧ h_ = w.heap.size := ⟨_, _, rfl, rfl⟩
  rw [← ex1, ← eh_]
  have hbx : Below w.heap.size w x1 := by rw [ex1]; exact below_alloc1 _ _ 
  have g_H : w.heap.size ≤ h_ := by rw [eh_]; exact Nat.le_refl _
  have V1 := Lib.hid (V1.out.stays hbx)
  have V2 := Lib.hid (V2.out.stays hbx)
  have BH := Lib.hid (show Blk x1 h_ 25 #[.int .i64 l, .int .i64 v, .int .i64 m, .int .i64 s, .int .i64 p, .int .i64 q, .int .u32 h6, .int .u32 h7, .int .u32 h8, .int .u64 h9, .int .u64 h10, .int .u64 h11, .int .u64 h12] by rw [ex1, eh_]; exact blk_new1_0 _ _ _ )
  have R2 := Lib.hid hbx
  have hz_x1 := R2.out.size
  clear hbx ex1 eh_
  have kH_0 : x1.cell? ⟨h_, 0, none⟩ = some (.int .i64 l) := BH.out.cell 0
  have kH_1 : x1.cell? ⟨h_, 1, none⟩ = some (.int .i64 v) := BH.out.cell 1
  have kH_2 : x1.cell? ⟨h_, 2, none⟩ = some (.int .i64 m) := BH.out.cell 2
  have kH_3 : x1.cell? ⟨h_, 3, none⟩ = some (.int .i64 s) := BH.out.cell 3
  have kH_4 : x1.cell? ⟨h_, 4, none⟩ = some (.int .i64 p) := BH.out.cell 4
  have kH_5 : x1.cell? ⟨h_, 5, none⟩ = some (.int .i64 q) := BH.out.cell 5
  have kH_6 : x1.cell? ⟨h_, 6, none⟩ = some (.int .u32 h6) := BH.out.cell 6
  have kH_7 : x1.cell? ⟨h_, 7, none⟩ = some (.int .u32 h7) := BH.out.cell 7
  have kH_8 : x1.cell? ⟨h_, 8, none⟩ = some (.int .u32 h8) := BH.out.cell 8
  have kH_9 : x1.cell? ⟨h_, 9, none⟩ = some (.int .u64 h9) := BH.out.cell 9
  have kH_10 : x1.cell? ⟨h_, 10, none⟩ = some (.int .u64 h10) := BH.out.cell 10
  have kH_11 : x1.cell? ⟨h_, 11, none⟩ = some (.int .u64 h11) := BH.out.cell 11
  have kH_12 : x1.cell? ⟨h_, 12, none⟩ = some (.int .u64 h12) := BH.out.cell 12
  go_wp2_with fail
  refine (encode_ok l v m s p q h6 h7 h8 h9 h10 h11 h12 _ HOK.out z6 z7 z8 z9 z10 z11 z12).mono ?_
  rintro e y3 ⟨Ax, cx, rfl, hx, hb⟩
  clear kH_0 kH_1 kH_2 kH_3 kH_4 kH_5 kH_6 kH_7 kH_8 kH_9 kH_10 kH_11 kH_12
  have hbx : Below x1.heap.size x1 y3 := below_via (by go_grown) hb (by first | (simp; done) | (simp; omega))
  have BH := Lib.hid (BH.out.stays hbx)
  have V1 := Lib.hid (V1.out.stays hbx)
  have V2 := Lib.hid (V2.out.stays hbx)
  have VX := Lib.hid hx
  have R4 := Lib.hid (R2.out.trans (hbx.mono hz_x1))
  have hz_y3 := R4.out.size
  clear hb hbx hx R2 hz_x1
  have hcx := VX.out.le
  have hcx2 := VX.out.cap
  have LX := Lib.hid VX.out.len
  go_upto_region 5 with fail
  go_wp2_with fail
  refine (refJoin_any _ _ _ [_, l1] _ (lists_made2 VX.out V1.out) (48 + n1) (by rw [List.flatten_cons, List.flatten_cons, List.flatten_nil, List.append_nil, List.length_append, LX.out, L1.out]) (by omega)).mono ?_
  rintro e wj ⟨Aj, cj, rfl, hj, hb⟩
  have hbx : Below y3.heap.size y3 wj := below_via (by go_grown) hb (by first | (simp; done) | (simp; omega))
  have BH := Lib.hid (BH.out.stays hbx)
  have V1 := Lib.hid (V1.out.stays hbx)
  have V2 := Lib.hid (V2.out.stays hbx)
  have VX := Lib.hid (VX.out.stays hbx)
  have VJ := Lib.hid (show Bytes wj Aj (48 + n1) cj (hdBytes l v m s p q h6 h7 h8 h9 h10 h11 h12 ++ l1) from by have := own_rd hj; simpa [Bytes] using this)
  have RJ := Lib.hid (R4.out.trans (hbx.mono hz_y3))
  have hz_wj := RJ.out.size
  clear hb hbx hj R4 hz_y3
  go_wp2_with fail
  refine (dec_join l v m s p q h6 h7 h8 h9 h10 h11 h12 l1 HOK.out z6 z7 z8 z9 z10 z11 z12 _ _ _ _ VJ.out (by omega) n1 L1.out).mono ?_
  rintro e y5 ⟨Ar, cr, rfl, hr, hb⟩
  have hbx : Below wj.heap.size wj y5 := below_via (by go_grown) hb (by first | (simp; done) | (simp; omega))
  have BH := Lib.hid (BH.out.stays hbx)
  have V1 := Lib.hid (V1.out.stays hbx)
  have V2 := Lib.hid (V2.out.stays hbx)
  have VX := Lib.hid (VX.out.stays hbx)
  have VJ := Lib.hid (VJ.out.stays hbx)
  have VR := Lib.hid hr
  have R6 := Lib.hid (RJ.out.trans (hbx.mono hz_wj))
  have hz_y5 := R6.out.size
  clear hb hbx hr RJ hz_wj
  go_upto_region 6 with fail
  obtain ⟨x7, g_, ex7, eg_⟩ : ∃ x7 g_, x7 = y5.alloc (.cells #[.int .i64 l, .int .i64 v, .int .i64 m, .int .i64 s, .int .i64 p, .int .i64 q, .int .u32 h6, .int .u32 h7, .int .u32 h8, .int .u64 h9, .int .u64 h10, .int .u64 h11, .int .u64 h12] 25) ∧ g_ = y5.heap.size := ⟨_, _, rfl, rfl⟩
  rw [← ex7, ← eg_]
  have hbx : Below y5.heap.size y5 x7 := by rw [ex7]; exact below_alloc1 _ _ 
  have o_H_G : h_ < g_ := by rw [eg_]; exact BH.out.lt
  have g_G : w.heap.size ≤ g_ := by rw [eg_]; exact hz_y5
  have BH := Lib.hid (BH.out.stays hbx)
  have V1 := Lib.hid (V1.out.stays hbx)
  have V2 := Lib.hid (V2.out.stays hbx)
  have VX := Lib.hid (VX.out.stays hbx)
  have VJ := Lib.hid (VJ.out.stays hbx)
  have VR := Lib.hid (VR.out.stays hbx)
  have BG := Lib.hid (show Blk x7 g_ 25 #[.int .i64 l, .int .i64 v, .int .i64 m, .int .i64 s, .int .i64 p, .int .i64 q, .int .u32 h6, .int .u32 h7, .int .u32 h8, .int .u64 h9, .int .u64 h10, .int .u64 h11, .int .u64 h12] by rw [ex7, eg_]; exact blk_new1_0 _ _ _ )
  have R8 := Lib.hid (R6.out.trans (hbx.mono hz_y5))
  have hz_x7 := R8.out.size
  clear hbx ex7 eg_ R6 hz_y5
  have kG_0 : x7.cell? ⟨g_, 0, none⟩ = some (.int .i64 l) := BG.out.cell 0
  have kG_1 : x7.cell? ⟨g_, 1, none⟩ = some (.int .i64 v) := BG.out.cell 1
  have kG_2 : x7.cell? ⟨g_, 2, none⟩ = some (.int .i64 m) := BG.out.cell 2
  have kG_3 : x7.cell? ⟨g_, 3, none⟩ = some (.int .i64 s) := BG.out.cell 3
  have kG_4 : x7.cell? ⟨g_, 4, none⟩ = some (.int .i64 p) := BG.out.cell 4
  have kG_5 : x7.cell? ⟨g_, 5, none⟩ = some (.int .i64 q) := BG.out.cell 5
  have kG_6 : x7.cell? ⟨g_, 6, none⟩ = some (.int .u32 h6) := BG.out.cell 6
  have kG_7 : x7.cell? ⟨g_, 7, none⟩ = some (.int .u32 h7) := BG.out.cell 7
  have kG_8 : x7.cell? ⟨g_, 8, none⟩ = some (.int .u32 h8) := BG.out.cell 8
  have kG_9 : x7.cell? ⟨g_, 9, none⟩ = some (.int .u64 h9) := BG.out.cell 9
  have kG_10 : x7.cell? ⟨g_, 10, none⟩ = some (.int .u64 h10) := BG.out.cell 10
  have kG_11 : x7.cell? ⟨g_, 11, none⟩ = some (.int .u64 h11) := BG.out.cell 11
  have kG_12 : x7.cell? ⟨g_, 12, none⟩ = some (.int .u64 h12) := BG.out.cell 12
  have kH_0 : x7.cell? ⟨h_, 0, none⟩ = some (.int .i64 l) := BH.out.cell 0
  have kH_1 : x7.cell? ⟨h_, 1, none⟩ = some (.int .i64 v) := BH.out.cell 1
  have kH_2 : x7.cell? ⟨h_, 2, none⟩ = some (.int .i64 m) := BH.out.cell 2
  have kH_3 : x7.cell? ⟨h_, 3, none⟩ = some (.int .i64 s) := BH.out.cell 3
  have kH_4 : x7.cell? ⟨h_, 4, none⟩ = some (.int .i64 p) := BH.out.cell 4
  have kH_5 : x7.cell? ⟨h_, 5, none⟩ = some (.int .i64 q) := BH.out.cell 5
  have kH_6 : x7.cell? ⟨h_, 6, none⟩ = some (.int .u32 h6) := BH.out.cell 6
  have kH_7 : x7.cell? ⟨h_, 7, none⟩ = some (.int .u32 h7) := BH.out.cell 7
  have kH_8 : x7.cell? ⟨h_, 8, none⟩ = some (.int .u32 h8) := BH.out.cell 8
  have kH_9 : x7.cell? ⟨h_, 9, none⟩ = some (.int .u64 h9) := BH.out.cell 9
  have kH_10 : x7.cell? ⟨h_, 10, none⟩ = some (.int .u64 h10) := BH.out.cell 10
  have kH_11 : x7.cell? ⟨h_, 11, none⟩ = some (.int .u64 h11) := BH.out.cell 11
  have kH_12 : x7.cell? ⟨h_, 12, none⟩ = some (.int .u64 h12) := BH.out.cell 12
  go_wp2_with fail
  refine (refSame_true VR.out V1.out rfl).mono ?_
  rintro e q_ ⟨rfl, rfl⟩
  go_wp2_with fail
  refine (dec_ok _ _ _ _ _ V2.out hw1 (by omega) hw2).mono ?_
  rintro e y9 ⟨Ad, cd, rfl, hd, hb⟩
  clear kG_0 kG_1 kG_2 kG_3 kG_4 kG_5 kG_6 kG_7 kG_8 kG_9 kG_10 kG_11 kG_12 kH_0 kH_1 kH_2 kH_3 kH_4 kH_5 kH_6 kH_7 kH_8 kH_9 kH_10 kH_11 kH_12
  have hbx : Below x7.heap.size x7 y9 := below_via (by go_grown) hb (by first | (simp; done) | (simp; omega))
  have BH := Lib.hid (BH.out.stays hbx)
  have BG := Lib.hid (BG.out.stays hbx)
  have V1 := Lib.hid (V1.out.stays hbx)
  have V2 := Lib.hid (V2.out.stays hbx)
  have VX := Lib.hid (VX.out.stays hbx)
  have VJ := Lib.hid (VJ.out.stays hbx)
  have VR := Lib.hid (VR.out.stays hbx)
  have VD := Lib.hid hd
  have R10 := Lib.hid (R8.out.trans (hbx.mono hz_x7))
  have hz_y9 := R10.out.size
  clear hb hbx hd R8 hz_x7
  have hcd := VD.out.le
  have hcd2 := VD.out.cap
  have HE := Lib.hid (encode_back l2 (by rw [L2.out]; omega) hw2)
  obtain ⟨u0, hu0⟩ : ∃ u, (dcL l2) = u := ⟨_, rfl⟩
  rw [hu0] at HE ⊢
  clear hu0
  obtain ⟨u1, hu1⟩ : ∃ u, (dcV l2) = u := ⟨_, rfl⟩
  rw [hu1] at HE ⊢
  clear hu1
  obtain ⟨u2, hu2⟩ : ∃ u, (dcM l2) = u := ⟨_, rfl⟩
  rw [hu2] at HE ⊢
  clear hu2
  obtain ⟨u3, hu3⟩ : ∃ u, (byteAt l2 1) = u := ⟨_, rfl⟩
  rw [hu3] at HE ⊢
  clear hu3
  obtain ⟨u4, hu4⟩ : ∃ u, (sgnB (byteAt l2 2)) = u := ⟨_, rfl⟩
  rw [hu4] at HE ⊢
  clear hu4
  obtain ⟨u5, hu5⟩ : ∃ u, (sgnB (byteAt l2 3)) = u := ⟨_, rfl⟩
  rw [hu5] at HE ⊢
  clear hu5
  obtain ⟨u6, hu6⟩ : ∃ u, (dcU l2 4 4) = u := ⟨_, rfl⟩
  rw [hu6] at HE ⊢
  clear hu6
  obtain ⟨u7, hu7⟩ : ∃ u, (dcU l2 8 4) = u := ⟨_, rfl⟩
  rw [hu7] at HE ⊢
  clear hu7
  obtain ⟨u8, hu8⟩ : ∃ u, (dcU l2 12 4) = u := ⟨_, rfl⟩
  rw [hu8] at HE ⊢
  clear hu8
  obtain ⟨u9, hu9⟩ : ∃ u, (dcU l2 16 8) = u := ⟨_, rfl⟩
  rw [hu9] at HE ⊢
  clear hu9
  obtain ⟨u10, hu10⟩ : ∃ u, (dcU l2 24 8) = u := ⟨_, rfl⟩
  rw [hu10] at HE ⊢
  clear hu10
  obtain ⟨u11, hu11⟩ : ∃ u, (dcU l2 32 8) = u := ⟨_, rfl⟩
  rw [hu11] at HE ⊢
  clear hu11
  obtain ⟨u12, hu12⟩ : ∃ u, (dcU l2 40 8) = u := ⟨_, rfl⟩
  rw [hu12] at HE ⊢
  clear hu12
  go_upto_region 9 with fail
  obtain ⟨x11, d_, ex11, ed_⟩ : ∃ x11 d_, x11 = y9.alloc (.cells #[.int .i64 u0, .int .i64 u1, .int .i64 u2, .int .i64 u3, .int .i64 u4, .int .i64 u5, .int .u32 u6, .int .u32 u7, .int .u32 u8, .int .u64 u9, .int .u64 u10, .int .u64 u11, .int .u64 u12] 25) ∧ d_ = y9.heap.size := ⟨_, _, rfl, rfl⟩
  rw [← ex11, ← ed_]
  have hbx : Below y9.heap.size y9 x11 := by rw [ex11]; exact below_alloc1 _ _ 
  have o_H_D : h_ < d_ := by rw [ed_]; exact BH.out.lt
  have o_G_D : g_ < d_ := by rw [ed_]; exact BG.out.lt
  have g_D : w.heap.size ≤ d_ := by rw [ed_]; exact hz_y9
  have BH := Lib.hid (BH.out.stays hbx)
  have BG := Lib.hid (BG.out.stays hbx)
  have V1 := Lib.hid (V1.out.stays hbx)
  have V2 := Lib.hid (V2.out.stays hbx)
  have VX := Lib.hid (VX.out.stays hbx)
  have VJ := Lib.hid (VJ.out.stays hbx)
  have VR := Lib.hid (VR.out.stays hbx)
  have VD := Lib.hid (VD.out.stays hbx)
  have BD := Lib.hid (show Blk x11 d_ 25 #[.int .i64 u0, .int .i64 u1, .int .i64 u2, .int .i64 u3, .int .i64 u4, .int .i64 u5, .int .u32 u6, .int .u32 u7, .int .u32 u8, .int .u64 u9, .int .u64 u10, .int .u64 u11, .int .u64 u12] by rw [ex11, ed_]; exact blk_new1_0 _ _ _ )
  have R12 := Lib.hid (R10.out.trans (hbx.mono hz_y9))
  have hz_x11 := R12.out.size
  clear hbx ex11 ed_ R10 hz_y9
  have kD_0 : x11.cell? ⟨d_, 0, none⟩ = some (.int .i64 u0) := BD.out.cell 0
  have kD_1 : x11.cell? ⟨d_, 1, none⟩ = some (.int .i64 u1) := BD.out.cell 1
  have kD_2 : x11.cell? ⟨d_, 2, none⟩ = some (.int .i64 u2) := BD.out.cell 2
  have kD_3 : x11.cell? ⟨d_, 3, none⟩ = some (.int .i64 u3) := BD.out.cell 3
  have kD_4 : x11.cell? ⟨d_, 4, none⟩ = some (.int .i64 u4) := BD.out.cell 4
  have kD_5 : x11.cell? ⟨d_, 5, none⟩ = some (.int .i64 u5) := BD.out.cell 5
  have kD_6 : x11.cell? ⟨d_, 6, none⟩ = some (.int .u32 u6) := BD.out.cell 6
  have kD_7 : x11.cell? ⟨d_, 7, none⟩ = some (.int .u32 u7) := BD.out.cell 7
  have kD_8 : x11.cell? ⟨d_, 8, none⟩ = some (.int .u32 u8) := BD.out.cell 8
  have kD_9 : x11.cell? ⟨d_, 9, none⟩ = some (.int .u64 u9) := BD.out.cell 9
  have kD_10 : x11.cell? ⟨d_, 10, none⟩ = some (.int .u64 u10) := BD.out.cell 10
  have kD_11 : x11.cell? ⟨d_, 11, none⟩ = some (.int .u64 u11) := BD.out.cell 11
  have kD_12 : x11.cell? ⟨d_, 12, none⟩ = some (.int .u64 u12) := BD.out.cell 12
  go_wp2_with fail
  refine (HE.out _).mono ?_
  rintro e y13 ⟨Ay, cy, rfl, hy, hb⟩
  clear kD_0 kD_1 kD_2 kD_3 kD_4 kD_5 kD_6 kD_7 kD_8 kD_9 kD_10 kD_11 kD_12
  have hbx : Below x11.heap.size x11 y13 := below_via (by go_grown) hb (by first | (simp; done) | (simp; omega))
  have BH := Lib.hid (BH.out.stays hbx)
  have BG := Lib.hid (BG.out.stays hbx)
  have BD := Lib.hid (BD.out.stays hbx)
  have V1 := Lib.hid (V1.out.stays hbx)
  have V2 := Lib.hid (V2.out.stays hbx)
  have VX := Lib.hid (VX.out.stays hbx)
  have VJ := Lib.hid (VJ.out.stays hbx)
  have VR := Lib.hid (VR.out.stays hbx)
  have VD := Lib.hid (VD.out.stays hbx)
  have VY := Lib.hid hy
  have R14 := Lib.hid (R12.out.trans (hbx.mono hz_x11))
  have hz_y13 := R14.out.size
  clear hb hbx hy R12 hz_x11
  have hcy := VY.out.le
  have hcy2 := VY.out.cap
  go_wp2_with fail
  refine (pkKnown _).mono ?_
  rintro e y15 ⟨rfl, hb⟩
  have hbx : Below y13.heap.size y13 y15 := below_via (by go_grown) hb (by first | (simp; done) | (simp; omega))
  have BH := Lib.hid (BH.out.stays hbx)
  have BG := Lib.hid (BG.out.stays hbx)
  have BD := Lib.hid (BD.out.stays hbx)
  have V1 := Lib.hid (V1.out.stays hbx)
  have V2 := Lib.hid (V2.out.stays hbx)
  have VX := Lib.hid (VX.out.stays hbx)
  have VJ := Lib.hid (VJ.out.stays hbx)
  have VR := Lib.hid (VR.out.stays hbx)
  have VD := Lib.hid (VD.out.stays hbx)
  have VY := Lib.hid (VY.out.stays hbx)
  have R16 := Lib.hid (R14.out.trans (hbx.mono hz_y13))
  have hz_y15 := R16.out.size
  clear hb hbx  R14 hz_y13
  go_wp2_with fail
  refine (refJoin_any _ _ _ [_, _] _ (lists_made2 VY.out VD.out) n2 (by rw [List.flatten_cons, List.flatten_cons, List.flatten_nil, List.append_nil, List.length_append, VY.out.len, VD.out.len]; omega) (by omega)).mono ?_
  rintro e wk ⟨Ak, ck, rfl, hj, hb⟩
  have hbx : Below y15.heap.size y15 wk := below_via (by go_grown) hb (by first | (simp; done) | (simp; omega))
  have BH := Lib.hid (BH.out.stays hbx)
  have BG := Lib.hid (BG.out.stays hbx)
  have BD := Lib.hid (BD.out.stays hbx)
  have V1 := Lib.hid (V1.out.stays hbx)
  have V2 := Lib.hid (V2.out.stays hbx)
  have VX := Lib.hid (VX.out.stays hbx)
  have VJ := Lib.hid (VJ.out.stays hbx)
  have VR := Lib.hid (VR.out.stays hbx)
  have VD := Lib.hid (VD.out.stays hbx)
  have VY := Lib.hid (VY.out.stays hbx)
  have VK := Lib.hid (show Bytes wk Ak n2 ck (l2.take 48 ++ l2.drop 48) from by have := own_rd hj; simpa [Bytes] using this)
  have RK := Lib.hid (R16.out.trans (hbx.mono hz_y15))
  have hz_wk := RK.out.size
  clear hb hbx hj R16 hz_y15
  go_wp2_with fail
  refine (refSame_true VK.out V2.out (List.take_append_drop _ _)).mono ?_
  rintro e q_ ⟨rfl, rfl⟩
  go_wp2
  go_ret
  exact ⟨rfl, RK.out⟩
theorem packetReadsBack_walk (h0 h1 h2 h3 h4 h5 : Int) (h6 h7 h8 h9 h10 h11 h12 : Nat) (z6 : h6 < 4294967296) (z7 : h7 < 4294967296) (z8 : h8 < 4294967296) (z9 : h9 < 18446744073709551616) (z10 : h10 < 18446744073709551616) (z11 : h11 < 18446744073709551616) (z12 : h12 < 18446744073709551616) (A1 : Option Addr) (n1 c1 : Nat) (l1 : List UInt8) (A2 : Option Addr) (n2 c2 : Nat) (l2 : List UInt8) (w : World) (hv1 : Bytes w A1 n1 c1 l1) (hv2 : Bytes w A2 n2 c2 l2) :
    Calls Try.prog 7 #[.agg #[.int .i64 h0, .int .i64 h1, .int .i64 h2, .int .i64 h3, .int .i64 h4, .int .i64 h5, .int .u32 h6, .int .u32 h7, .int .u32 h8, .int .u64 h9, .int .u64 h10, .int .u64 h11, .int .u64 h12], .slice A1 n1 c1, .slice A2 n2 c2] w fun e w' => e = .returned (.bool true) ∧ Below w.heap.size w w' := by
  by_cases hn1 : 100 < n1
  · exact prb_far1 _ _ _ _ _ _ _ _ _ _ _ _ _ _ _ _ _ _ _ _ hn1
  by_cases hn2 : 200 < n2
  · exact prb_far2 _ _ _ _ _ _ _ _ _ _ _ _ _ _ _ _ _ _ _ _ (by omega) hn2
  by_cases hok : HdOk h0 h1 h2 h3 h4 h5
  · have hok' := hok
    obtain ⟨⟨a0, _⟩, ⟨a1, _⟩, ⟨a2, _⟩, ⟨a3, _⟩, _⟩ := hok'
    obtain ⟨l, rfl⟩ := Int.eq_ofNat_of_zero_le a0
    obtain ⟨v, rfl⟩ := Int.eq_ofNat_of_zero_le (by omega : 0 ≤ h1)
    obtain ⟨m, rfl⟩ := Int.eq_ofNat_of_zero_le a2
    obtain ⟨s, rfl⟩ := Int.eq_ofNat_of_zero_le a3
    by_cases hw : n2 < 48
    · exact prb_ok_short l v m s _ _ _ _ _ _ _ _ _ hok z6 z7 z8 z9 z10 z11 z12 _ _ _ _ _ _ _ _ w hv1 hv2 (by omega) (by omega) hw
    by_cases hw2 : dcV l2 = 3 ∨ dcV l2 = 4
    · exact prb_ok_ok l v m s _ _ _ _ _ _ _ _ _ hok z6 z7 z8 z9 z10 z11 z12 _ _ _ _ _ _ _ _ w hv1 hv2 (by omega) (by omega) (by omega) hw2
    · exact prb_ok_form l v m s _ _ _ _ _ _ _ _ _ hok z6 z7 z8 z9 z10 z11 z12 _ _ _ _ _ _ _ _ w hv1 hv2 (by omega) (by omega) (by omega) hw2
  · by_cases hw : n2 < 48
    · exact prb_bad_short _ _ _ _ _ _ _ _ _ _ _ _ _ hok _ _ _ _ _ _ _ _ w hv1 hv2 (by omega) (by omega) hw
    by_cases hw2 : dcV l2 = 3 ∨ dcV l2 = 4
    · exact prb_bad_ok _ _ _ _ _ _ _ _ _ _ _ _ _ hok _ _ _ _ _ _ _ _ w hv1 hv2 (by omega) (by omega) (by omega) hw2
    · exact prb_bad_form _ _ _ _ _ _ _ _ _ _ _ _ _ hok _ _ _ _ _ _ _ _ w hv1 hv2 (by omega) (by omega) (by omega) hw2
theorem packetReadsBack_walk' (a0 a1 a2 a3 a4 a5 a6 a7 a8 a9 a10 a11 a12 : Int) (w6 : (Lit.int .u32 a6).wf = true) (w7 : (Lit.int .u32 a7).wf = true) (w8 : (Lit.int .u32 a8).wf = true) (w9 : (Lit.int .u64 a9).wf = true) (w10 : (Lit.int .u64 a10).wf = true) (w11 : (Lit.int .u64 a11).wf = true) (w12 : (Lit.int .u64 a12).wf = true) (A1 : Option Addr) (n1 c1 : Nat) (l1 : List UInt8) (A2 : Option Addr) (n2 c2 : Nat) (l2 : List UInt8) (w : World) (hv1 : Bytes w A1 n1 c1 l1) (hv2 : Bytes w A2 n2 c2 l2) :
    Calls Try.prog 7 #[.agg #[.int .i64 a0, .int .i64 a1, .int .i64 a2, .int .i64 a3, .int .i64 a4, .int .i64 a5, .int .u32 a6, .int .u32 a7, .int .u32 a8, .int .u64 a9, .int .u64 a10, .int .u64 a11, .int .u64 a12], .slice A1 n1 c1, .slice A2 n2 c2] w fun e w' => e = .returned (.bool true) ∧ Below w.heap.size w w' := by
  have b6 := bounds_u32 w6
  have b7 := bounds_u32 w7
  have b8 := bounds_u32 w8
  have b9 := bounds_u64 w9
  have b10 := bounds_u64 w10
  have b11 := bounds_u64 w11
  have b12 := bounds_u64 w12
  obtain ⟨h6, rfl⟩ := Int.eq_ofNat_of_zero_le b6.1
  obtain ⟨h7, rfl⟩ := Int.eq_ofNat_of_zero_le b7.1
  obtain ⟨h8, rfl⟩ := Int.eq_ofNat_of_zero_le b8.1
  obtain ⟨h9, rfl⟩ := Int.eq_ofNat_of_zero_le b9.1
  obtain ⟨h10, rfl⟩ := Int.eq_ofNat_of_zero_le b10.1
  obtain ⟨h11, rfl⟩ := Int.eq_ofNat_of_zero_le b11.1
  obtain ⟨h12, rfl⟩ := Int.eq_ofNat_of_zero_le b12.1
  exact packetReadsBack_walk a0 a1 a2 a3 a4 a5 h6 h7 h8 h9 h10 h11 h12 (by omega) (by omega) (by omega) (by omega) (by omega) (by omega) (by omega) A1 n1 c1 l1 A2 n2 c2 l2 w hv1 hv2
end Go.Proofs.Ytnpfndlmbaafaaa
