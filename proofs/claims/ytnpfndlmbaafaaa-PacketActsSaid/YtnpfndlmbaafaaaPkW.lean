/- The walk of PacketActs. -/
import Derived.Test.YtnpfndlmbaafaaaPkV
import Derived.Test.YtnpfndlmbaafaaaPkE
import Derived.Test.YtnpfndlmbaafaaaTakeG
import Derived.Test.YtnpfndlmbaafaaaSame
namespace Go.Proofs.Ytnpfndlmbaafaaa
open Go.RowKit

set_option maxRecDepth 100000 in
set_option maxHeartbeats 8000000 in
theorem pacts_far1 (h0 h1 h2 h3 h4 h5 : Int) (h6 h7 h8 h9 h10 h11 h12 : Nat) (z6 : h6 < 4294967296) (z7 : h7 < 4294967296) (z8 : h8 < 4294967296) (z9 : h9 < 18446744073709551616) (z10 : h10 < 18446744073709551616) (z11 : h11 < 18446744073709551616) (z12 : h12 < 18446744073709551616) (st : Int) (rc tx : Nat) (A : Option Addr) (n c : Nat) (l : List UInt8) (w : World) (g1 : 200 < n) (g2 : n ≤ 1280) : Calls Try.prog 12 #[.agg #[.int .i64 h0, .int .i64 h1, .int .i64 h2, .int .i64 h3, .int .i64 h4, .int .i64 h5, .int .u32 h6, .int .u32 h7, .int .u32 h8, .int .u64 h9, .int .u64 h10, .int .u64 h11, .int .u64 h12], .slice A n c, .int .i64 st, .int .u64 rc, .int .u64 tx] w fun e w' => e = .returned (.bool true) ∧ Below w.heap.size w w' := by
  have i1 : (n : Int) > 200 := by omega
  have i2 : (n : Int) ≤ 1280 := by omega
  clear g1 g2
  go_enter Try.func12, Try.ntmps12
  go_upto_region 1 with fail
  obtain ⟨x1, q_, ex1, eq_⟩ : ∃ x1 q_, x1 = w.alloc (.cells #[.int .i64 h0, .int .i64 h1, .int .i64 h2, .int .i64 h3, .int .i64 h4, .int .i64 h5, .int .u32 h6, .int .u32 h7, .int .u32 h8, .int .u64 h9, .int .u64 h10, .int .u64 h11, .int .u64 h12] 25) ∧ q_ = w.heap.size := ⟨_, _, rfl, rfl⟩
  rw [← ex1, ← eq_]
  have hbx : Below w.heap.size w x1 := by rw [ex1]; exact below_alloc1 _ _ 
  have g_Q : w.heap.size ≤ q_ := by rw [eq_]; exact Nat.le_refl _
  have BQ := Lib.hid (show Blk x1 q_ 25 #[.int .i64 h0, .int .i64 h1, .int .i64 h2, .int .i64 h3, .int .i64 h4, .int .i64 h5, .int .u32 h6, .int .u32 h7, .int .u32 h8, .int .u64 h9, .int .u64 h10, .int .u64 h11, .int .u64 h12] by rw [ex1, eq_]; exact blk_new1_0 _ _ _ )
  have R2 := Lib.hid hbx
  have hz_x1 := R2.out.size
  clear hbx ex1 eq_
  go_wp2_with fail
  refine (pkKnown _).mono ?_
  rintro e y3 ⟨rfl, hb⟩
  have hbx : Below x1.heap.size x1 y3 := below_via (by go_grown) hb (by first | (simp; done) | (simp; omega))
  have BQ := Lib.hid (BQ.out.stays hbx)
  have R4 := Lib.hid (R2.out.trans (hbx.mono hz_x1))
  have hz_y3 := R4.out.size
  clear hb hbx  R2 hz_x1
  go_wp2
  go_ret
  exact ⟨rfl, R4.out⟩
set_option maxRecDepth 100000 in
set_option maxHeartbeats 8000000 in
theorem pacts_far2 (h0 h1 h2 h3 h4 h5 : Int) (h6 h7 h8 h9 h10 h11 h12 : Nat) (z6 : h6 < 4294967296) (z7 : h7 < 4294967296) (z8 : h8 < 4294967296) (z9 : h9 < 18446744073709551616) (z10 : h10 < 18446744073709551616) (z11 : h11 < 18446744073709551616) (z12 : h12 < 18446744073709551616) (st : Int) (rc tx : Nat) (A : Option Addr) (n c : Nat) (l : List UInt8) (w : World) (g1 : 1500 < n) : Calls Try.prog 12 #[.agg #[.int .i64 h0, .int .i64 h1, .int .i64 h2, .int .i64 h3, .int .i64 h4, .int .i64 h5, .int .u32 h6, .int .u32 h7, .int .u32 h8, .int .u64 h9, .int .u64 h10, .int .u64 h11, .int .u64 h12], .slice A n c, .int .i64 st, .int .u64 rc, .int .u64 tx] w fun e w' => e = .returned (.bool true) ∧ Below w.heap.size w w' := by
  have i1 : (n : Int) > 200 := by omega
  have i2 : ¬ (n : Int) ≤ 1280 := by omega
  have i3 : (n : Int) > 1500 := by omega
  clear g1
  go_enter Try.func12, Try.ntmps12
  go_upto_region 1 with fail
  obtain ⟨x1, q_, ex1, eq_⟩ : ∃ x1 q_, x1 = w.alloc (.cells #[.int .i64 h0, .int .i64 h1, .int .i64 h2, .int .i64 h3, .int .i64 h4, .int .i64 h5, .int .u32 h6, .int .u32 h7, .int .u32 h8, .int .u64 h9, .int .u64 h10, .int .u64 h11, .int .u64 h12] 25) ∧ q_ = w.heap.size := ⟨_, _, rfl, rfl⟩
  rw [← ex1, ← eq_]
  have hbx : Below w.heap.size w x1 := by rw [ex1]; exact below_alloc1 _ _ 
  have g_Q : w.heap.size ≤ q_ := by rw [eq_]; exact Nat.le_refl _
  have BQ := Lib.hid (show Blk x1 q_ 25 #[.int .i64 h0, .int .i64 h1, .int .i64 h2, .int .i64 h3, .int .i64 h4, .int .i64 h5, .int .u32 h6, .int .u32 h7, .int .u32 h8, .int .u64 h9, .int .u64 h10, .int .u64 h11, .int .u64 h12] by rw [ex1, eq_]; exact blk_new1_0 _ _ _ )
  have R2 := Lib.hid hbx
  have hz_x1 := R2.out.size
  clear hbx ex1 eq_
  go_wp2_with fail
  refine (pkKnown _).mono ?_
  rintro e y3 ⟨rfl, hb⟩
  have hbx : Below x1.heap.size x1 y3 := below_via (by go_grown) hb (by first | (simp; done) | (simp; omega))
  have BQ := Lib.hid (BQ.out.stays hbx)
  have R4 := Lib.hid (R2.out.trans (hbx.mono hz_x1))
  have hz_y3 := R4.out.size
  clear hb hbx  R2 hz_x1
  go_wp2
  go_ret
  exact ⟨rfl, R4.out⟩
set_option maxRecDepth 100000 in
set_option maxHeartbeats 8000000 in
theorem pacts_near1 (h0 h1 h2 h3 h4 h5 : Int) (h6 h7 h8 h9 h10 h11 h12 : Nat) (z6 : h6 < 4294967296) (z7 : h7 < 4294967296) (z8 : h8 < 4294967296) (z9 : h9 < 18446744073709551616) (z10 : h10 < 18446744073709551616) (z11 : h11 < 18446744073709551616) (z12 : h12 < 18446744073709551616) (st : Int) (rc tx : Nat) (A : Option Addr) (n c : Nat) (l : List UInt8) (w : World) (hv : Bytes w A n c l) (g1 : n ≤ 200) : Calls Try.prog 12 #[.agg #[.int .i64 h0, .int .i64 h1, .int .i64 h2, .int .i64 h3, .int .i64 h4, .int .i64 h5, .int .u32 h6, .int .u32 h7, .int .u32 h8, .int .u64 h9, .int .u64 h10, .int .u64 h11, .int .u64 h12], .slice A n c, .int .i64 st, .int .u64 rc, .int .u64 tx] w fun e w' => e = .returned (.bool true) ∧ Below w.heap.size w w' := by
  have q1 := hv.le
  have q2 := hv.cap
  have V0 := Lib.hid hv
  clear hv
  have i1 : ¬ (n : Int) > 200 := by omega
  have i3 : ¬ (n : Int) > 1500 := by omega
  clear g1
  have Z6 := Lib.hid z6
  have Z7 := Lib.hid z7
  have Z8 := Lib.hid z8
  have Z9 := Lib.hid z9
  have Z10 := Lib.hid z10
  have Z11 := Lib.hid z11
  have Z12 := Lib.hid z12
  clear z6 z7 z8 z9 z10 z11 z12
  go_enter Try.func12, Try.ntmps12
  go_upto_region 1 with fail
  obtain ⟨x1, q_, ex1, eq_⟩ : ∃ x1 q_, x1 = w.alloc (.cells #[.int .i64 h0, .int .i64 h1, .int .i64 h2, .int .i64 h3, .int .i64 h4, .int .i64 h5, .int .u32 h6, .int .u32 h7, .int .u32 h8, .int .u64 h9, .int .u64 h10, .int .u64 h11, .int .u64 h12] 25) ∧ q_ = w.heap.size := ⟨_, _, rfl, rfl⟩
  rw [← ex1, ← eq_]
  have hbx : Below w.heap.size w x1 := by rw [ex1]; exact below_alloc1 _ _ 
  have g_Q : w.heap.size ≤ q_ := by rw [eq_]; exact Nat.le_refl _
  have BQ := Lib.hid (show Blk x1 q_ 25 #[.int .i64 h0, .int .i64 h1, .int .i64 h2, .int .i64 h3, .int .i64 h4, .int .i64 h5, .int .u32 h6, .int .u32 h7, .int .u32 h8, .int .u64 h9, .int .u64 h10, .int .u64 h11, .int .u64 h12] by rw [ex1, eq_]; exact blk_new1_0 _ _ _ )
  have R2 := Lib.hid hbx
  have hz_x1 := R2.out.size
  clear hbx ex1 eq_
  have V := Lib.hid (V0.out.stays R2.out)
  have kQ_0 : x1.cell? ⟨q_, 0, none⟩ = some (.int .i64 h0) := BQ.out.cell 0
  have kQ_1 : x1.cell? ⟨q_, 1, none⟩ = some (.int .i64 h1) := BQ.out.cell 1
  have kQ_2 : x1.cell? ⟨q_, 2, none⟩ = some (.int .i64 h2) := BQ.out.cell 2
  have kQ_3 : x1.cell? ⟨q_, 3, none⟩ = some (.int .i64 h3) := BQ.out.cell 3
  have kQ_4 : x1.cell? ⟨q_, 4, none⟩ = some (.int .i64 h4) := BQ.out.cell 4
  have kQ_5 : x1.cell? ⟨q_, 5, none⟩ = some (.int .i64 h5) := BQ.out.cell 5
  have kQ_6 : x1.cell? ⟨q_, 6, none⟩ = some (.int .u32 h6) := BQ.out.cell 6
  have kQ_7 : x1.cell? ⟨q_, 7, none⟩ = some (.int .u32 h7) := BQ.out.cell 7
  have kQ_8 : x1.cell? ⟨q_, 8, none⟩ = some (.int .u32 h8) := BQ.out.cell 8
  have kQ_9 : x1.cell? ⟨q_, 9, none⟩ = some (.int .u64 h9) := BQ.out.cell 9
  have kQ_10 : x1.cell? ⟨q_, 10, none⟩ = some (.int .u64 h10) := BQ.out.cell 10
  have kQ_11 : x1.cell? ⟨q_, 11, none⟩ = some (.int .u64 h11) := BQ.out.cell 11
  have kQ_12 : x1.cell? ⟨q_, 12, none⟩ = some (.int .u64 h12) := BQ.out.cell 12
  go_wp2_with fail
  refine (enc_any h0 h1 h2 h3 h4 h5 h6 h7 h8 h9 h10 h11 h12 Z6.out Z7.out Z8.out Z9.out Z10.out Z11.out Z12.out _).mono ?_
  rintro e y3 ⟨A1, c1, rfl, hx, hb⟩
  clear kQ_0 kQ_1 kQ_2 kQ_3 kQ_4 kQ_5 kQ_6 kQ_7 kQ_8 kQ_9 kQ_10 kQ_11 kQ_12
  have hbx : Below x1.heap.size x1 y3 := below_via (by go_grown) hb (by first | (simp; done) | (simp; omega))
  have BQ := Lib.hid (BQ.out.stays hbx)
  have V := Lib.hid (V.out.stays hbx)
  have VX := Lib.hid hx
  have R4 := Lib.hid (R2.out.trans (hbx.mono hz_x1))
  have hz_y3 := R4.out.size
  clear hb hbx hx R2 hz_x1
  have kQ_0 : y3.cell? ⟨q_, 0, none⟩ = some (.int .i64 h0) := BQ.out.cell 0
  have kQ_1 : y3.cell? ⟨q_, 1, none⟩ = some (.int .i64 h1) := BQ.out.cell 1
  have kQ_2 : y3.cell? ⟨q_, 2, none⟩ = some (.int .i64 h2) := BQ.out.cell 2
  have kQ_3 : y3.cell? ⟨q_, 3, none⟩ = some (.int .i64 h3) := BQ.out.cell 3
  have kQ_4 : y3.cell? ⟨q_, 4, none⟩ = some (.int .i64 h4) := BQ.out.cell 4
  have kQ_5 : y3.cell? ⟨q_, 5, none⟩ = some (.int .i64 h5) := BQ.out.cell 5
  have kQ_6 : y3.cell? ⟨q_, 6, none⟩ = some (.int .u32 h6) := BQ.out.cell 6
  have kQ_7 : y3.cell? ⟨q_, 7, none⟩ = some (.int .u32 h7) := BQ.out.cell 7
  have kQ_8 : y3.cell? ⟨q_, 8, none⟩ = some (.int .u32 h8) := BQ.out.cell 8
  have kQ_9 : y3.cell? ⟨q_, 9, none⟩ = some (.int .u64 h9) := BQ.out.cell 9
  have kQ_10 : y3.cell? ⟨q_, 10, none⟩ = some (.int .u64 h10) := BQ.out.cell 10
  have kQ_11 : y3.cell? ⟨q_, 11, none⟩ = some (.int .u64 h11) := BQ.out.cell 11
  have kQ_12 : y3.cell? ⟨q_, 12, none⟩ = some (.int .u64 h12) := BQ.out.cell 12
  go_wp2_with fail
  refine (refEnc_any h0 h1 h2 h3 h4 h5 h6 h7 h8 h9 h10 h11 h12 Z6.out Z7.out Z8.out Z9.out Z10.out Z11.out Z12.out _).mono ?_
  rintro e y5 ⟨A2, c2, rfl, hx, hb⟩
  clear kQ_0 kQ_1 kQ_2 kQ_3 kQ_4 kQ_5 kQ_6 kQ_7 kQ_8 kQ_9 kQ_10 kQ_11 kQ_12
  have hbx : Below y3.heap.size y3 y5 := below_via (by go_grown) hb (by first | (simp; done) | (simp; omega))
  have BQ := Lib.hid (BQ.out.stays hbx)
  have V := Lib.hid (V.out.stays hbx)
  have VX := Lib.hid (VX.out.stays hbx)
  have VY := Lib.hid hx
  have R6 := Lib.hid (R4.out.trans (hbx.mono hz_y3))
  have hz_y5 := R6.out.size
  clear hb hbx hx R4 hz_y3
  go_wp2_with fail
  refine (dec_any _ _ _ _ _ V.out).mono ?_
  rintro e y7 ⟨A3, c3, rfl, hx, hb⟩
  have hbx : Below y5.heap.size y5 y7 := below_via (by go_grown) hb (by first | (simp; done) | (simp; omega))
  have BQ := Lib.hid (BQ.out.stays hbx)
  have V := Lib.hid (V.out.stays hbx)
  have VX := Lib.hid (VX.out.stays hbx)
  have VY := Lib.hid (VY.out.stays hbx)
  have VR := Lib.hid hx
  have R8 := Lib.hid (R6.out.trans (hbx.mono hz_y5))
  have hz_y7 := R8.out.size
  clear hb hbx hx R6 hz_y5
  go_upto_region 6 with fail
  obtain ⟨x9, g_, ex9, eg_⟩ : ∃ x9 g_, x9 = y7.alloc (.cells #[.int .i64 (dcN n l (dcL l) : Nat), .int .i64 (dcN n l (dcV l) : Nat), .int .i64 (dcN n l (dcM l) : Nat), .int .i64 (dcN n l (byteAt l 1) : Nat), .int .i64 (dcI n l (sgnB (byteAt l 2))), .int .i64 (dcI n l (sgnB (byteAt l 3))), .int .u32 (dcN n l (dcU l 4 4) : Nat), .int .u32 (dcN n l (dcU l 8 4) : Nat), .int .u32 (dcN n l (dcU l 12 4) : Nat), .int .u64 (dcN n l (dcU l 16 8) : Nat), .int .u64 (dcN n l (dcU l 24 8) : Nat), .int .u64 (dcN n l (dcU l 32 8) : Nat), .int .u64 (dcN n l (dcU l 40 8) : Nat)] 25) ∧ g_ = y7.heap.size := ⟨_, _, rfl, rfl⟩
  rw [← ex9, ← eg_]
  have hbx : Below y7.heap.size y7 x9 := by rw [ex9]; exact below_alloc1 _ _ 
  have o_Q_G : q_ < g_ := by rw [eg_]; exact BQ.out.lt
  have g_G : w.heap.size ≤ g_ := by rw [eg_]; exact hz_y7
  have BQ := Lib.hid (BQ.out.stays hbx)
  have V := Lib.hid (V.out.stays hbx)
  have VX := Lib.hid (VX.out.stays hbx)
  have VY := Lib.hid (VY.out.stays hbx)
  have VR := Lib.hid (VR.out.stays hbx)
  have BG := Lib.hid (show Blk x9 g_ 25 #[.int .i64 (dcN n l (dcL l) : Nat), .int .i64 (dcN n l (dcV l) : Nat), .int .i64 (dcN n l (dcM l) : Nat), .int .i64 (dcN n l (byteAt l 1) : Nat), .int .i64 (dcI n l (sgnB (byteAt l 2))), .int .i64 (dcI n l (sgnB (byteAt l 3))), .int .u32 (dcN n l (dcU l 4 4) : Nat), .int .u32 (dcN n l (dcU l 8 4) : Nat), .int .u32 (dcN n l (dcU l 12 4) : Nat), .int .u64 (dcN n l (dcU l 16 8) : Nat), .int .u64 (dcN n l (dcU l 24 8) : Nat), .int .u64 (dcN n l (dcU l 32 8) : Nat), .int .u64 (dcN n l (dcU l 40 8) : Nat)] by rw [ex9, eg_]; exact blk_new1_0 _ _ _ )
  have R10 := Lib.hid (R8.out.trans (hbx.mono hz_y7))
  have hz_x9 := R10.out.size
  clear hbx ex9 eg_ R8 hz_y7
  go_wp2_with fail
  refine (refDec_any _ _ _ _ _ V.out).mono ?_
  rintro e y11 ⟨A4, c4, rfl, hx, hb⟩
  have hbx : Below x9.heap.size x9 y11 := below_via (by go_grown) hb (by first | (simp; done) | (simp; omega))
  have BQ := Lib.hid (BQ.out.stays hbx)
  have BG := Lib.hid (BG.out.stays hbx)
  have V := Lib.hid (V.out.stays hbx)
  have VX := Lib.hid (VX.out.stays hbx)
  have VY := Lib.hid (VY.out.stays hbx)
  have VR := Lib.hid (VR.out.stays hbx)
  have VS := Lib.hid hx
  have R12 := Lib.hid (R10.out.trans (hbx.mono hz_x9))
  have hz_y11 := R12.out.size
  clear hb hbx hx R10 hz_x9
  go_upto_region 7 with fail
  obtain ⟨x13, k_, ex13, ek_⟩ : ∃ x13 k_, x13 = y11.alloc (.cells #[.int .i64 (dcN n l (dcL l) : Nat), .int .i64 (dcN n l (dcV l) : Nat), .int .i64 (dcN n l (dcM l) : Nat), .int .i64 (dcN n l (byteAt l 1) : Nat), .int .i64 (dcI n l (sgnB (byteAt l 2))), .int .i64 (dcI n l (sgnB (byteAt l 3))), .int .u32 (dcN n l (dcU l 4 4) : Nat), .int .u32 (dcN n l (dcU l 8 4) : Nat), .int .u32 (dcN n l (dcU l 12 4) : Nat), .int .u64 (dcN n l (dcU l 16 8) : Nat), .int .u64 (dcN n l (dcU l 24 8) : Nat), .int .u64 (dcN n l (dcU l 32 8) : Nat), .int .u64 (dcN n l (dcU l 40 8) : Nat)] 25) ∧ k_ = y11.heap.size := ⟨_, _, rfl, rfl⟩
  rw [← ex13, ← ek_]
  have hbx : Below y11.heap.size y11 x13 := by rw [ex13]; exact below_alloc1 _ _ 
  have o_Q_K : q_ < k_ := by rw [ek_]; exact BQ.out.lt
  have o_G_K : g_ < k_ := by rw [ek_]; exact BG.out.lt
  have g_K : w.heap.size ≤ k_ := by rw [ek_]; exact hz_y11
  have BQ := Lib.hid (BQ.out.stays hbx)
  have BG := Lib.hid (BG.out.stays hbx)
  have V := Lib.hid (V.out.stays hbx)
  have VX := Lib.hid (VX.out.stays hbx)
  have VY := Lib.hid (VY.out.stays hbx)
  have VR := Lib.hid (VR.out.stays hbx)
  have VS := Lib.hid (VS.out.stays hbx)
  have BK := Lib.hid (show Blk x13 k_ 25 #[.int .i64 (dcN n l (dcL l) : Nat), .int .i64 (dcN n l (dcV l) : Nat), .int .i64 (dcN n l (dcM l) : Nat), .int .i64 (dcN n l (byteAt l 1) : Nat), .int .i64 (dcI n l (sgnB (byteAt l 2))), .int .i64 (dcI n l (sgnB (byteAt l 3))), .int .u32 (dcN n l (dcU l 4 4) : Nat), .int .u32 (dcN n l (dcU l 8 4) : Nat), .int .u32 (dcN n l (dcU l 12 4) : Nat), .int .u64 (dcN n l (dcU l 16 8) : Nat), .int .u64 (dcN n l (dcU l 24 8) : Nat), .int .u64 (dcN n l (dcU l 32 8) : Nat), .int .u64 (dcN n l (dcU l 40 8) : Nat)] by rw [ex13, ek_]; exact blk_new1_0 _ _ _ )
  have R14 := Lib.hid (R12.out.trans (hbx.mono hz_y11))
  have hz_x13 := R14.out.size
  clear hbx ex13 ek_ R12 hz_y11
  have kQ_0 : x13.cell? ⟨q_, 0, none⟩ = some (.int .i64 h0) := BQ.out.cell 0
  have kQ_1 : x13.cell? ⟨q_, 1, none⟩ = some (.int .i64 h1) := BQ.out.cell 1
  have kQ_2 : x13.cell? ⟨q_, 2, none⟩ = some (.int .i64 h2) := BQ.out.cell 2
  have kQ_3 : x13.cell? ⟨q_, 3, none⟩ = some (.int .i64 h3) := BQ.out.cell 3
  have kQ_4 : x13.cell? ⟨q_, 4, none⟩ = some (.int .i64 h4) := BQ.out.cell 4
  have kQ_5 : x13.cell? ⟨q_, 5, none⟩ = some (.int .i64 h5) := BQ.out.cell 5
  have kQ_6 : x13.cell? ⟨q_, 6, none⟩ = some (.int .u32 h6) := BQ.out.cell 6
  have kQ_7 : x13.cell? ⟨q_, 7, none⟩ = some (.int .u32 h7) := BQ.out.cell 7
  have kQ_8 : x13.cell? ⟨q_, 8, none⟩ = some (.int .u32 h8) := BQ.out.cell 8
  have kQ_9 : x13.cell? ⟨q_, 9, none⟩ = some (.int .u64 h9) := BQ.out.cell 9
  have kQ_10 : x13.cell? ⟨q_, 10, none⟩ = some (.int .u64 h10) := BQ.out.cell 10
  have kQ_11 : x13.cell? ⟨q_, 11, none⟩ = some (.int .u64 h11) := BQ.out.cell 11
  have kQ_12 : x13.cell? ⟨q_, 12, none⟩ = some (.int .u64 h12) := BQ.out.cell 12
  go_wp2_with fail
  refine (reply_any h0 h1 h2 h3 h4 h5 h6 h7 h8 h9 h10 h11 h12 st rc tx _).mono ?_
  rintro e y15 ⟨rfl, hb⟩
  clear kQ_0 kQ_1 kQ_2 kQ_3 kQ_4 kQ_5 kQ_6 kQ_7 kQ_8 kQ_9 kQ_10 kQ_11 kQ_12
  have hbx : Below x13.heap.size x13 y15 := below_via (by go_grown) hb (by first | (simp; done) | (simp; omega))
  have BQ := Lib.hid (BQ.out.stays hbx)
  have BG := Lib.hid (BG.out.stays hbx)
  have BK := Lib.hid (BK.out.stays hbx)
  have V := Lib.hid (V.out.stays hbx)
  have VX := Lib.hid (VX.out.stays hbx)
  have VY := Lib.hid (VY.out.stays hbx)
  have VR := Lib.hid (VR.out.stays hbx)
  have VS := Lib.hid (VS.out.stays hbx)
  have R16 := Lib.hid (R14.out.trans (hbx.mono hz_x13))
  have hz_y15 := R16.out.size
  clear hb hbx  R14 hz_x13
  go_upto_region 8 with fail
  obtain ⟨x17, p_, ex17, ep_⟩ : ∃ x17 p_, x17 = y15.alloc (.cells #[.int .i64 0, .int .i64 (ryI (replyE h0 h1 h2 h3 h4 h5 st) h1), .int .i64 (ryI (replyE h0 h1 h2 h3 h4 h5 st) 4), .int .i64 (ryI (replyE h0 h1 h2 h3 h4 h5 st) st), .int .i64 (ryI (replyE h0 h1 h2 h3 h4 h5 st) h4), .int .i64 (ryI (replyE h0 h1 h2 h3 h4 h5 st) (-20)), .int .u32 0, .int .u32 0, .int .u32 0, .int .u64 0, .int .u64 (ryN (replyE h0 h1 h2 h3 h4 h5 st) h12 : Nat), .int .u64 (ryN (replyE h0 h1 h2 h3 h4 h5 st) rc : Nat), .int .u64 (ryN (replyE h0 h1 h2 h3 h4 h5 st) tx : Nat)] 25) ∧ p_ = y15.heap.size := ⟨_, _, rfl, rfl⟩
  rw [← ex17, ← ep_]
  have hbx : Below y15.heap.size y15 x17 := by rw [ex17]; exact below_alloc1 _ _ 
  have o_Q_P : q_ < p_ := by rw [ep_]; exact BQ.out.lt
  have o_G_P : g_ < p_ := by rw [ep_]; exact BG.out.lt
  have o_K_P : k_ < p_ := by rw [ep_]; exact BK.out.lt
  have g_P : w.heap.size ≤ p_ := by rw [ep_]; exact hz_y15
  have BQ := Lib.hid (BQ.out.stays hbx)
  have BG := Lib.hid (BG.out.stays hbx)
  have BK := Lib.hid (BK.out.stays hbx)
  have V := Lib.hid (V.out.stays hbx)
  have VX := Lib.hid (VX.out.stays hbx)
  have VY := Lib.hid (VY.out.stays hbx)
  have VR := Lib.hid (VR.out.stays hbx)
  have VS := Lib.hid (VS.out.stays hbx)
  have BP := Lib.hid (show Blk x17 p_ 25 #[.int .i64 0, .int .i64 (ryI (replyE h0 h1 h2 h3 h4 h5 st) h1), .int .i64 (ryI (replyE h0 h1 h2 h3 h4 h5 st) 4), .int .i64 (ryI (replyE h0 h1 h2 h3 h4 h5 st) st), .int .i64 (ryI (replyE h0 h1 h2 h3 h4 h5 st) h4), .int .i64 (ryI (replyE h0 h1 h2 h3 h4 h5 st) (-20)), .int .u32 0, .int .u32 0, .int .u32 0, .int .u64 0, .int .u64 (ryN (replyE h0 h1 h2 h3 h4 h5 st) h12 : Nat), .int .u64 (ryN (replyE h0 h1 h2 h3 h4 h5 st) rc : Nat), .int .u64 (ryN (replyE h0 h1 h2 h3 h4 h5 st) tx : Nat)] by rw [ex17, ep_]; exact blk_new1_0 _ _ _ )
  have R18 := Lib.hid (R16.out.trans (hbx.mono hz_y15))
  have hz_x17 := R18.out.size
  clear hbx ex17 ep_ R16 hz_y15
  have kQ_0 : x17.cell? ⟨q_, 0, none⟩ = some (.int .i64 h0) := BQ.out.cell 0
  have kQ_1 : x17.cell? ⟨q_, 1, none⟩ = some (.int .i64 h1) := BQ.out.cell 1
  have kQ_2 : x17.cell? ⟨q_, 2, none⟩ = some (.int .i64 h2) := BQ.out.cell 2
  have kQ_3 : x17.cell? ⟨q_, 3, none⟩ = some (.int .i64 h3) := BQ.out.cell 3
  have kQ_4 : x17.cell? ⟨q_, 4, none⟩ = some (.int .i64 h4) := BQ.out.cell 4
  have kQ_5 : x17.cell? ⟨q_, 5, none⟩ = some (.int .i64 h5) := BQ.out.cell 5
  have kQ_6 : x17.cell? ⟨q_, 6, none⟩ = some (.int .u32 h6) := BQ.out.cell 6
  have kQ_7 : x17.cell? ⟨q_, 7, none⟩ = some (.int .u32 h7) := BQ.out.cell 7
  have kQ_8 : x17.cell? ⟨q_, 8, none⟩ = some (.int .u32 h8) := BQ.out.cell 8
  have kQ_9 : x17.cell? ⟨q_, 9, none⟩ = some (.int .u64 h9) := BQ.out.cell 9
  have kQ_10 : x17.cell? ⟨q_, 10, none⟩ = some (.int .u64 h10) := BQ.out.cell 10
  have kQ_11 : x17.cell? ⟨q_, 11, none⟩ = some (.int .u64 h11) := BQ.out.cell 11
  have kQ_12 : x17.cell? ⟨q_, 12, none⟩ = some (.int .u64 h12) := BQ.out.cell 12
  go_wp2_with fail
  refine (refReply_any h0 h1 h2 h3 h4 h5 h6 h7 h8 h9 h10 h11 h12 st rc tx _).mono ?_
  rintro e y19 ⟨rfl, hb⟩
  clear kQ_0 kQ_1 kQ_2 kQ_3 kQ_4 kQ_5 kQ_6 kQ_7 kQ_8 kQ_9 kQ_10 kQ_11 kQ_12
  have hbx : Below x17.heap.size x17 y19 := below_via (by go_grown) hb (by first | (simp; done) | (simp; omega))
  have BQ := Lib.hid (BQ.out.stays hbx)
  have BG := Lib.hid (BG.out.stays hbx)
  have BK := Lib.hid (BK.out.stays hbx)
  have BP := Lib.hid (BP.out.stays hbx)
  have V := Lib.hid (V.out.stays hbx)
  have VX := Lib.hid (VX.out.stays hbx)
  have VY := Lib.hid (VY.out.stays hbx)
  have VR := Lib.hid (VR.out.stays hbx)
  have VS := Lib.hid (VS.out.stays hbx)
  have R20 := Lib.hid (R18.out.trans (hbx.mono hz_x17))
  have hz_y19 := R20.out.size
  clear hb hbx  R18 hz_x17
  go_upto_region 9 with fail
  obtain ⟨x21, r_, ex21, er_⟩ : ∃ x21 r_, x21 = y19.alloc (.cells #[.int .i64 0, .int .i64 (ryI (replyE h0 h1 h2 h3 h4 h5 st) h1), .int .i64 (ryI (replyE h0 h1 h2 h3 h4 h5 st) 4), .int .i64 (ryI (replyE h0 h1 h2 h3 h4 h5 st) st), .int .i64 (ryI (replyE h0 h1 h2 h3 h4 h5 st) h4), .int .i64 (ryI (replyE h0 h1 h2 h3 h4 h5 st) (-20)), .int .u32 0, .int .u32 0, .int .u32 0, .int .u64 0, .int .u64 (ryN (replyE h0 h1 h2 h3 h4 h5 st) h12 : Nat), .int .u64 (ryN (replyE h0 h1 h2 h3 h4 h5 st) rc : Nat), .int .u64 (ryN (replyE h0 h1 h2 h3 h4 h5 st) tx : Nat)] 25) ∧ r_ = y19.heap.size := ⟨_, _, rfl, rfl⟩
  rw [← ex21, ← er_]
  have hbx : Below y19.heap.size y19 x21 := by rw [ex21]; exact below_alloc1 _ _ 
  have o_Q_R : q_ < r_ := by rw [er_]; exact BQ.out.lt
  have o_G_R : g_ < r_ := by rw [er_]; exact BG.out.lt
  have o_K_R : k_ < r_ := by rw [er_]; exact BK.out.lt
  have o_P_R : p_ < r_ := by rw [er_]; exact BP.out.lt
  have g_R : w.heap.size ≤ r_ := by rw [er_]; exact hz_y19
  have BQ := Lib.hid (BQ.out.stays hbx)
  have BG := Lib.hid (BG.out.stays hbx)
  have BK := Lib.hid (BK.out.stays hbx)
  have BP := Lib.hid (BP.out.stays hbx)
  have V := Lib.hid (V.out.stays hbx)
  have VX := Lib.hid (VX.out.stays hbx)
  have VY := Lib.hid (VY.out.stays hbx)
  have VR := Lib.hid (VR.out.stays hbx)
  have VS := Lib.hid (VS.out.stays hbx)
  have BR := Lib.hid (show Blk x21 r_ 25 #[.int .i64 0, .int .i64 (ryI (replyE h0 h1 h2 h3 h4 h5 st) h1), .int .i64 (ryI (replyE h0 h1 h2 h3 h4 h5 st) 4), .int .i64 (ryI (replyE h0 h1 h2 h3 h4 h5 st) st), .int .i64 (ryI (replyE h0 h1 h2 h3 h4 h5 st) h4), .int .i64 (ryI (replyE h0 h1 h2 h3 h4 h5 st) (-20)), .int .u32 0, .int .u32 0, .int .u32 0, .int .u64 0, .int .u64 (ryN (replyE h0 h1 h2 h3 h4 h5 st) h12 : Nat), .int .u64 (ryN (replyE h0 h1 h2 h3 h4 h5 st) rc : Nat), .int .u64 (ryN (replyE h0 h1 h2 h3 h4 h5 st) tx : Nat)] by rw [ex21, er_]; exact blk_new1_0 _ _ _ )
  have R22 := Lib.hid (R20.out.trans (hbx.mono hz_y19))
  have hz_x21 := R22.out.size
  clear hbx ex21 er_ R20 hz_y19
  have l_Q := BQ.out.lt
  have l_G := BG.out.lt
  have l_K := BK.out.lt
  have l_P := BP.out.lt
  have l_R := BR.out.lt
  refine take_start (S := fun w' => Below x21.heap.size x21 w') (by kernel_rfl) ?hPQ_1 (Below.refl _ _).drew (fun hPQ hHeld => ?rest_1)
  case hPQ_1 => (repeat (with_reducible first | refine PQ.then ?_ | refine PQ.block ?_)); exact fun _ _ d _ _ h => by cases d <;> exact h
  refine take_makeg (j := 0) (d := (some 77)) (R := fun v w' => v = .bool true ∧ Below x21.drew.heap.size x21.drew w') rfl rfl (by kernel_rfl) (by rfl) ((pkKnown _).mono fun e q hq => ⟨_, hq.1, rfl, hq.2⟩) (by go_simp) ?_
  rintro v wa ⟨rfl, hbm⟩
  have hHeld2 : Below x21.heap.size x21 wa := below_via hHeld hbm hHeld.size
  refine ⟨hHeld2, ?_⟩
  clear hHeld hbm
  have hHeld := hHeld2
  clear hHeld2
  try simp only [Act.put, List.setIfInBounds_toArray, List.set_cons_zero, List.set_cons_succ]
  refine take_val (i := 1) (d := (some 78)) (v := ?_) rfl rfl (by kernel_rfl) (by kernel_rfl) (by kernel_rfl) hPQ (by rfl) (fun wq hSw => ?_) hHeld ?_
  rotate_left 1
  · replace hSw : Below x21.heap.size x21 wq := hSw; have cQ := (BQ.out.stays hSw).cell; have cG := (BG.out.stays hSw).cell; have cK := (BK.out.stays hSw).cell; have cP := (BP.out.stays hSw).cell; have cR := (BR.out.stays hSw).cell; go_simp; try with_reducible rfl
  try simp only [Act.put, List.setIfInBounds_toArray, List.set_cons_zero, List.set_cons_succ]
  refine take_val (i := 2) (d := (some 79)) (v := ?_) rfl rfl (by kernel_rfl) (by kernel_rfl) (by kernel_rfl) hPQ (by rfl) (fun wq hSw => ?_) hHeld ?_
  rotate_left 1
  · replace hSw : Below x21.heap.size x21 wq := hSw; have cQ := (BQ.out.stays hSw).cell; have cG := (BG.out.stays hSw).cell; have cK := (BK.out.stays hSw).cell; have cP := (BP.out.stays hSw).cell; have cR := (BR.out.stays hSw).cell; go_simp; try with_reducible rfl
  try simp only [Act.put, List.setIfInBounds_toArray, List.set_cons_zero, List.set_cons_succ]
  refine take_val (i := 4) (d := (some 81)) (v := ?_) rfl rfl (by kernel_rfl) (by kernel_rfl) (by kernel_rfl) hPQ (by rfl) (fun wq hSw => ?_) hHeld ?_
  rotate_left 1
  · replace hSw : Below x21.heap.size x21 wq := hSw; have cQ := (BQ.out.stays hSw).cell; have cG := (BG.out.stays hSw).cell; have cK := (BK.out.stays hSw).cell; have cP := (BP.out.stays hSw).cell; have cR := (BR.out.stays hSw).cell; go_simp; try with_reducible rfl
  try simp only [Act.put, List.setIfInBounds_toArray, List.set_cons_zero, List.set_cons_succ]
  refine take_makeg (j := 3) (d := (some 80)) (R := fun v w' => v = .int .i64 (encE h0 h1 h2 h3 h4 h5) ∧ Below wa.heap.size wa w') rfl rfl (by kernel_rfl) (by rfl) ((valid_any h0 h1 h2 h3 h4 h5 h6 h7 h8 h9 h10 h11 h12 _).mono fun e q hq => ⟨_, hq.1, rfl, hq.2⟩) (by go_simp) ?_
  rintro v wb ⟨rfl, hbm⟩
  have hHeld2 : Below x21.heap.size x21 wb := below_via hHeld hbm hHeld.size
  refine ⟨hHeld2, ?_⟩
  clear hHeld hbm
  have hHeld := hHeld2
  clear hHeld2
  try simp only [Act.put, List.setIfInBounds_toArray, List.set_cons_zero, List.set_cons_succ]
  refine take_makeg (j := 5) (d := (some 82)) (R := fun v w' => v = .int .i64 (encE h0 h1 h2 h3 h4 h5) ∧ Below wb.heap.size wb w') rfl rfl (by kernel_rfl) (by rfl) ((refValid_any h0 h1 h2 h3 h4 h5 h6 h7 h8 h9 h10 h11 h12 _).mono fun e q hq => ⟨_, hq.1, rfl, hq.2⟩) (by go_simp) ?_
  rintro v wc ⟨rfl, hbm⟩
  have hHeld2 : Below x21.heap.size x21 wc := below_via hHeld hbm hHeld.size
  refine ⟨hHeld2, ?_⟩
  clear hHeld hbm
  have hHeld := hHeld2
  clear hHeld2
  try simp only [Act.put, List.setIfInBounds_toArray, List.set_cons_zero, List.set_cons_succ]
  refine take_val (i := 6) (d := (some 83)) (v := ?_) rfl rfl (by kernel_rfl) (by kernel_rfl) (by kernel_rfl) hPQ (by rfl) (fun wq hSw => ?_) hHeld ?_
  rotate_left 1
  · replace hSw : Below x21.heap.size x21 wq := hSw; have cQ := (BQ.out.stays hSw).cell; have cG := (BG.out.stays hSw).cell; have cK := (BK.out.stays hSw).cell; have cP := (BP.out.stays hSw).cell; have cR := (BR.out.stays hSw).cell; go_simp; try with_reducible rfl
  try simp only [Act.put, List.setIfInBounds_toArray, List.set_cons_zero, List.set_cons_succ]
  refine take_val (i := 7) (d := (some 84)) (v := ?_) rfl rfl (by kernel_rfl) (by kernel_rfl) (by kernel_rfl) hPQ (by rfl) (fun wq hSw => ?_) hHeld ?_
  rotate_left 1
  · replace hSw : Below x21.heap.size x21 wq := hSw; have cQ := (BQ.out.stays hSw).cell; have cG := (BG.out.stays hSw).cell; have cK := (BK.out.stays hSw).cell; have cP := (BP.out.stays hSw).cell; have cR := (BR.out.stays hSw).cell; go_simp; try with_reducible rfl
  try simp only [Act.put, List.setIfInBounds_toArray, List.set_cons_zero, List.set_cons_succ]
  refine take_val (i := 8) (d := (some 85)) (v := ?_) rfl rfl (by kernel_rfl) (by kernel_rfl) (by kernel_rfl) hPQ (by rfl) (fun wq hSw => ?_) hHeld ?_
  rotate_left 1
  · replace hSw : Below x21.heap.size x21 wq := hSw; have cQ := (BQ.out.stays hSw).cell; have cG := (BG.out.stays hSw).cell; have cK := (BK.out.stays hSw).cell; have cP := (BP.out.stays hSw).cell; have cR := (BR.out.stays hSw).cell; go_simp; try with_reducible rfl
  try simp only [Act.put, List.setIfInBounds_toArray, List.set_cons_zero, List.set_cons_succ]
  refine take_val (i := 9) (d := (some 86)) (v := ?_) rfl rfl (by kernel_rfl) (by kernel_rfl) (by kernel_rfl) hPQ (by rfl) (fun wq hSw => ?_) hHeld ?_
  rotate_left 1
  · replace hSw : Below x21.heap.size x21 wq := hSw; have cQ := (BQ.out.stays hSw).cell; have cG := (BG.out.stays hSw).cell; have cK := (BK.out.stays hSw).cell; have cP := (BP.out.stays hSw).cell; have cR := (BR.out.stays hSw).cell; go_simp; try with_reducible rfl
  try simp only [Act.put, List.setIfInBounds_toArray, List.set_cons_zero, List.set_cons_succ]
  refine take_val (i := 10) (d := (some 87)) (v := ?_) rfl rfl (by kernel_rfl) (by kernel_rfl) (by kernel_rfl) hPQ (by rfl) (fun wq hSw => ?_) hHeld ?_
  rotate_left 1
  · replace hSw : Below x21.heap.size x21 wq := hSw; have cQ := (BQ.out.stays hSw).cell; have cG := (BG.out.stays hSw).cell; have cK := (BK.out.stays hSw).cell; have cP := (BP.out.stays hSw).cell; have cR := (BR.out.stays hSw).cell; go_simp; try with_reducible rfl
  try simp only [Act.put, List.setIfInBounds_toArray, List.set_cons_zero, List.set_cons_succ]
  refine take_val (i := 11) (d := (some 88)) (v := ?_) rfl rfl (by kernel_rfl) (by kernel_rfl) (by kernel_rfl) hPQ (by rfl) (fun wq hSw => ?_) hHeld ?_
  rotate_left 1
  · replace hSw : Below x21.heap.size x21 wq := hSw; have cQ := (BQ.out.stays hSw).cell; have cG := (BG.out.stays hSw).cell; have cK := (BK.out.stays hSw).cell; have cP := (BP.out.stays hSw).cell; have cR := (BR.out.stays hSw).cell; go_simp; try with_reducible rfl
  try simp only [Act.put, List.setIfInBounds_toArray, List.set_cons_zero, List.set_cons_succ]
  refine take_val (i := 12) (d := (some 89)) (v := ?_) rfl rfl (by kernel_rfl) (by kernel_rfl) (by kernel_rfl) hPQ (by rfl) (fun wq hSw => ?_) hHeld ?_
  rotate_left 1
  · replace hSw : Below x21.heap.size x21 wq := hSw; have cQ := (BQ.out.stays hSw).cell; have cG := (BG.out.stays hSw).cell; have cK := (BK.out.stays hSw).cell; have cP := (BP.out.stays hSw).cell; have cR := (BR.out.stays hSw).cell; go_simp; try with_reducible rfl
  try simp only [Act.put, List.setIfInBounds_toArray, List.set_cons_zero, List.set_cons_succ]
  refine take_val (i := 13) (d := (some 90)) (v := ?_) rfl rfl (by kernel_rfl) (by kernel_rfl) (by kernel_rfl) hPQ (by rfl) (fun wq hSw => ?_) hHeld ?_
  rotate_left 1
  · replace hSw : Below x21.heap.size x21 wq := hSw; have cQ := (BQ.out.stays hSw).cell; have cG := (BG.out.stays hSw).cell; have cK := (BK.out.stays hSw).cell; have cP := (BP.out.stays hSw).cell; have cR := (BR.out.stays hSw).cell; go_simp; try with_reducible rfl
  try simp only [Act.put, List.setIfInBounds_toArray, List.set_cons_zero, List.set_cons_succ]
  refine take_val (i := 14) (d := (some 91)) (v := ?_) rfl rfl (by kernel_rfl) (by kernel_rfl) (by kernel_rfl) hPQ (by rfl) (fun wq hSw => ?_) hHeld ?_
  rotate_left 1
  · replace hSw : Below x21.heap.size x21 wq := hSw; have cQ := (BQ.out.stays hSw).cell; have cG := (BG.out.stays hSw).cell; have cK := (BK.out.stays hSw).cell; have cP := (BP.out.stays hSw).cell; have cR := (BR.out.stays hSw).cell; go_simp; try with_reducible rfl
  try simp only [Act.put, List.setIfInBounds_toArray, List.set_cons_zero, List.set_cons_succ]
  refine take_val (i := 15) (d := (some 92)) (v := ?_) rfl rfl (by kernel_rfl) (by kernel_rfl) (by kernel_rfl) hPQ (by rfl) (fun wq hSw => ?_) hHeld ?_
  rotate_left 1
  · replace hSw : Below x21.heap.size x21 wq := hSw; have cQ := (BQ.out.stays hSw).cell; have cG := (BG.out.stays hSw).cell; have cK := (BK.out.stays hSw).cell; have cP := (BP.out.stays hSw).cell; have cR := (BR.out.stays hSw).cell; go_simp; try with_reducible rfl
  try simp only [Act.put, List.setIfInBounds_toArray, List.set_cons_zero, List.set_cons_succ]
  refine take_call (i := 16) (d := (some 93)) rfl rfl (by kernel_rfl) (by kernel_rfl) (by kernel_rfl) hPQ (by rfl) (fun wq hSw => (refSame_true (VX.out.stays hSw) (VY.out.stays hSw) rfl).mono (fun e q hq => ⟨hq.1, by first | exact hq.2 | exact hq.2.symm⟩)) (fun wq hSw => ?_) hHeld ?_
  · go_simp
  try simp only [Act.put, List.setIfInBounds_toArray, List.set_cons_zero, List.set_cons_succ]
  refine take_val (i := 17) (d := (some 94)) (v := ?_) rfl rfl (by kernel_rfl) (by kernel_rfl) (by kernel_rfl) hPQ (by rfl) (fun wq hSw => ?_) hHeld ?_
  rotate_left 1
  · replace hSw : Below x21.heap.size x21 wq := hSw; have cQ := (BQ.out.stays hSw).cell; have cG := (BG.out.stays hSw).cell; have cK := (BK.out.stays hSw).cell; have cP := (BP.out.stays hSw).cell; have cR := (BR.out.stays hSw).cell; go_simp; try with_reducible rfl
  try simp only [Act.put, List.setIfInBounds_toArray, List.set_cons_zero, List.set_cons_succ]
  refine take_val (i := 18) (d := (some 95)) (v := ?_) rfl rfl (by kernel_rfl) (by kernel_rfl) (by kernel_rfl) hPQ (by rfl) (fun wq hSw => ?_) hHeld ?_
  rotate_left 1
  · replace hSw : Below x21.heap.size x21 wq := hSw; have cQ := (BQ.out.stays hSw).cell; have cG := (BG.out.stays hSw).cell; have cK := (BK.out.stays hSw).cell; have cP := (BP.out.stays hSw).cell; have cR := (BR.out.stays hSw).cell; go_simp; try with_reducible rfl
  try simp only [Act.put, List.setIfInBounds_toArray, List.set_cons_zero, List.set_cons_succ]
  refine take_val (i := 19) (d := (some 96)) (v := ?_) rfl rfl (by kernel_rfl) (by kernel_rfl) (by kernel_rfl) hPQ (by rfl) (fun wq hSw => ?_) hHeld ?_
  rotate_left 1
  · replace hSw : Below x21.heap.size x21 wq := hSw; have cQ := (BQ.out.stays hSw).cell; have cG := (BG.out.stays hSw).cell; have cK := (BK.out.stays hSw).cell; have cP := (BP.out.stays hSw).cell; have cR := (BR.out.stays hSw).cell; go_simp; try with_reducible rfl
  try simp only [Act.put, List.setIfInBounds_toArray, List.set_cons_zero, List.set_cons_succ]
  refine take_val (i := 20) (d := (some 97)) (v := ?_) rfl rfl (by kernel_rfl) (by kernel_rfl) (by kernel_rfl) hPQ (by rfl) (fun wq hSw => ?_) hHeld ?_
  rotate_left 1
  · replace hSw : Below x21.heap.size x21 wq := hSw; have cQ := (BQ.out.stays hSw).cell; have cG := (BG.out.stays hSw).cell; have cK := (BK.out.stays hSw).cell; have cP := (BP.out.stays hSw).cell; have cR := (BR.out.stays hSw).cell; go_simp; try with_reducible rfl
  try simp only [Act.put, List.setIfInBounds_toArray, List.set_cons_zero, List.set_cons_succ]
  refine take_val (i := 21) (d := (some 98)) (v := ?_) rfl rfl (by kernel_rfl) (by kernel_rfl) (by kernel_rfl) hPQ (by rfl) (fun wq hSw => ?_) hHeld ?_
  rotate_left 1
  · replace hSw : Below x21.heap.size x21 wq := hSw; have cQ := (BQ.out.stays hSw).cell; have cG := (BG.out.stays hSw).cell; have cK := (BK.out.stays hSw).cell; have cP := (BP.out.stays hSw).cell; have cR := (BR.out.stays hSw).cell; go_simp; try with_reducible rfl
  try simp only [Act.put, List.setIfInBounds_toArray, List.set_cons_zero, List.set_cons_succ]
  refine take_val (i := 22) (d := (some 99)) (v := ?_) rfl rfl (by kernel_rfl) (by kernel_rfl) (by kernel_rfl) hPQ (by rfl) (fun wq hSw => ?_) hHeld ?_
  rotate_left 1
  · replace hSw : Below x21.heap.size x21 wq := hSw; have cQ := (BQ.out.stays hSw).cell; have cG := (BG.out.stays hSw).cell; have cK := (BK.out.stays hSw).cell; have cP := (BP.out.stays hSw).cell; have cR := (BR.out.stays hSw).cell; go_simp; try with_reducible rfl
  try simp only [Act.put, List.setIfInBounds_toArray, List.set_cons_zero, List.set_cons_succ]
  refine take_val (i := 23) (d := (some 100)) (v := ?_) rfl rfl (by kernel_rfl) (by kernel_rfl) (by kernel_rfl) hPQ (by rfl) (fun wq hSw => ?_) hHeld ?_
  rotate_left 1
  · replace hSw : Below x21.heap.size x21 wq := hSw; have cQ := (BQ.out.stays hSw).cell; have cG := (BG.out.stays hSw).cell; have cK := (BK.out.stays hSw).cell; have cP := (BP.out.stays hSw).cell; have cR := (BR.out.stays hSw).cell; go_simp; try with_reducible rfl
  try simp only [Act.put, List.setIfInBounds_toArray, List.set_cons_zero, List.set_cons_succ]
  refine take_val (i := 24) (d := (some 101)) (v := ?_) rfl rfl (by kernel_rfl) (by kernel_rfl) (by kernel_rfl) hPQ (by rfl) (fun wq hSw => ?_) hHeld ?_
  rotate_left 1
  · replace hSw : Below x21.heap.size x21 wq := hSw; have cQ := (BQ.out.stays hSw).cell; have cG := (BG.out.stays hSw).cell; have cK := (BK.out.stays hSw).cell; have cP := (BP.out.stays hSw).cell; have cR := (BR.out.stays hSw).cell; go_simp; try with_reducible rfl
  try simp only [Act.put, List.setIfInBounds_toArray, List.set_cons_zero, List.set_cons_succ]
  refine take_val (i := 25) (d := (some 102)) (v := ?_) rfl rfl (by kernel_rfl) (by kernel_rfl) (by kernel_rfl) hPQ (by rfl) (fun wq hSw => ?_) hHeld ?_
  rotate_left 1
  · replace hSw : Below x21.heap.size x21 wq := hSw; have cQ := (BQ.out.stays hSw).cell; have cG := (BG.out.stays hSw).cell; have cK := (BK.out.stays hSw).cell; have cP := (BP.out.stays hSw).cell; have cR := (BR.out.stays hSw).cell; go_simp; try with_reducible rfl
  try simp only [Act.put, List.setIfInBounds_toArray, List.set_cons_zero, List.set_cons_succ]
  refine take_val (i := 26) (d := (some 103)) (v := ?_) rfl rfl (by kernel_rfl) (by kernel_rfl) (by kernel_rfl) hPQ (by rfl) (fun wq hSw => ?_) hHeld ?_
  rotate_left 1
  · replace hSw : Below x21.heap.size x21 wq := hSw; have cQ := (BQ.out.stays hSw).cell; have cG := (BG.out.stays hSw).cell; have cK := (BK.out.stays hSw).cell; have cP := (BP.out.stays hSw).cell; have cR := (BR.out.stays hSw).cell; go_simp; try with_reducible rfl
  try simp only [Act.put, List.setIfInBounds_toArray, List.set_cons_zero, List.set_cons_succ]
  refine take_val (i := 27) (d := (some 104)) (v := ?_) rfl rfl (by kernel_rfl) (by kernel_rfl) (by kernel_rfl) hPQ (by rfl) (fun wq hSw => ?_) hHeld ?_
  rotate_left 1
  · replace hSw : Below x21.heap.size x21 wq := hSw; have cQ := (BQ.out.stays hSw).cell; have cG := (BG.out.stays hSw).cell; have cK := (BK.out.stays hSw).cell; have cP := (BP.out.stays hSw).cell; have cR := (BR.out.stays hSw).cell; go_simp; try with_reducible rfl
  try simp only [Act.put, List.setIfInBounds_toArray, List.set_cons_zero, List.set_cons_succ]
  refine take_val (i := 28) (d := (some 105)) (v := ?_) rfl rfl (by kernel_rfl) (by kernel_rfl) (by kernel_rfl) hPQ (by rfl) (fun wq hSw => ?_) hHeld ?_
  rotate_left 1
  · replace hSw : Below x21.heap.size x21 wq := hSw; have cQ := (BQ.out.stays hSw).cell; have cG := (BG.out.stays hSw).cell; have cK := (BK.out.stays hSw).cell; have cP := (BP.out.stays hSw).cell; have cR := (BR.out.stays hSw).cell; go_simp; try with_reducible rfl
  try simp only [Act.put, List.setIfInBounds_toArray, List.set_cons_zero, List.set_cons_succ]
  refine take_val (i := 29) (d := (some 106)) (v := ?_) rfl rfl (by kernel_rfl) (by kernel_rfl) (by kernel_rfl) hPQ (by rfl) (fun wq hSw => ?_) hHeld ?_
  rotate_left 1
  · replace hSw : Below x21.heap.size x21 wq := hSw; have cQ := (BQ.out.stays hSw).cell; have cG := (BG.out.stays hSw).cell; have cK := (BK.out.stays hSw).cell; have cP := (BP.out.stays hSw).cell; have cR := (BR.out.stays hSw).cell; go_simp; try with_reducible rfl
  try simp only [Act.put, List.setIfInBounds_toArray, List.set_cons_zero, List.set_cons_succ]
  refine take_val (i := 30) (d := (some 107)) (v := ?_) rfl rfl (by kernel_rfl) (by kernel_rfl) (by kernel_rfl) hPQ (by rfl) (fun wq hSw => ?_) hHeld ?_
  rotate_left 1
  · replace hSw : Below x21.heap.size x21 wq := hSw; have cQ := (BQ.out.stays hSw).cell; have cG := (BG.out.stays hSw).cell; have cK := (BK.out.stays hSw).cell; have cP := (BP.out.stays hSw).cell; have cR := (BR.out.stays hSw).cell; go_simp; try with_reducible rfl
  try simp only [Act.put, List.setIfInBounds_toArray, List.set_cons_zero, List.set_cons_succ]
  refine take_call (i := 31) (d := (some 108)) rfl rfl (by kernel_rfl) (by kernel_rfl) (by kernel_rfl) hPQ (by rfl) (fun wq hSw => (refSame_true (VR.out.stays hSw) (VS.out.stays hSw) rfl).mono (fun e q hq => ⟨hq.1, by first | exact hq.2 | exact hq.2.symm⟩)) (fun wq hSw => ?_) hHeld ?_
  · go_simp
  try simp only [Act.put, List.setIfInBounds_toArray, List.set_cons_zero, List.set_cons_succ]
  refine take_val (i := 32) (d := (some 109)) (v := ?_) rfl rfl (by kernel_rfl) (by kernel_rfl) (by kernel_rfl) hPQ (by rfl) (fun wq hSw => ?_) hHeld ?_
  rotate_left 1
  · replace hSw : Below x21.heap.size x21 wq := hSw; have cQ := (BQ.out.stays hSw).cell; have cG := (BG.out.stays hSw).cell; have cK := (BK.out.stays hSw).cell; have cP := (BP.out.stays hSw).cell; have cR := (BR.out.stays hSw).cell; go_simp; try with_reducible rfl
  try simp only [Act.put, List.setIfInBounds_toArray, List.set_cons_zero, List.set_cons_succ]
  refine take_val (i := 33) (d := (some 110)) (v := ?_) rfl rfl (by kernel_rfl) (by kernel_rfl) (by kernel_rfl) hPQ (by rfl) (fun wq hSw => ?_) hHeld ?_
  rotate_left 1
  · replace hSw : Below x21.heap.size x21 wq := hSw; have cQ := (BQ.out.stays hSw).cell; have cG := (BG.out.stays hSw).cell; have cK := (BK.out.stays hSw).cell; have cP := (BP.out.stays hSw).cell; have cR := (BR.out.stays hSw).cell; go_simp; try with_reducible rfl
  try simp only [Act.put, List.setIfInBounds_toArray, List.set_cons_zero, List.set_cons_succ]
  refine take_val (i := 34) (d := (some 111)) (v := ?_) rfl rfl (by kernel_rfl) (by kernel_rfl) (by kernel_rfl) hPQ (by rfl) (fun wq hSw => ?_) hHeld ?_
  rotate_left 1
  · replace hSw : Below x21.heap.size x21 wq := hSw; have cQ := (BQ.out.stays hSw).cell; have cG := (BG.out.stays hSw).cell; have cK := (BK.out.stays hSw).cell; have cP := (BP.out.stays hSw).cell; have cR := (BR.out.stays hSw).cell; go_simp; try with_reducible rfl
  try simp only [Act.put, List.setIfInBounds_toArray, List.set_cons_zero, List.set_cons_succ]
  refine take_val (i := 36) (d := (some 113)) (v := ?_) rfl rfl (by kernel_rfl) (by kernel_rfl) (by kernel_rfl) hPQ (by rfl) (fun wq hSw => ?_) hHeld ?_
  rotate_left 1
  · replace hSw : Below x21.heap.size x21 wq := hSw; have cQ := (BQ.out.stays hSw).cell; have cG := (BG.out.stays hSw).cell; have cK := (BK.out.stays hSw).cell; have cP := (BP.out.stays hSw).cell; have cR := (BR.out.stays hSw).cell; go_simp; try with_reducible rfl
  try simp only [Act.put, List.setIfInBounds_toArray, List.set_cons_zero, List.set_cons_succ]
  refine take_makeg (j := 35) (d := (some 112)) (R := fun v w' => v = .agg #[.int .i64 0, .int .i64 4, .int .i64 3, .int .i64 0, .int .i64 6, .int .i64 0, .int .u32 0, .int .u32 0, .int .u32 0, .int .u64 0, .int .u64 0, .int .u64 0, .int .u64 tx] ∧ Below wc.heap.size wc w') rfl rfl (by kernel_rfl) (by rfl) ((ask_any tx _).mono fun e q hq => ⟨_, hq.1, rfl, hq.2⟩) (by go_simp) ?_
  rintro v wd ⟨rfl, hbm⟩
  have hHeld2 : Below x21.heap.size x21 wd := below_via hHeld hbm hHeld.size
  refine ⟨hHeld2, ?_⟩
  clear hHeld hbm
  have hHeld := hHeld2
  clear hHeld2
  try simp only [Act.put, List.setIfInBounds_toArray, List.set_cons_zero, List.set_cons_succ]
  refine take_makeg (j := 37) (d := (some 114)) (R := fun v w' => v = .agg #[.int .i64 0, .int .i64 4, .int .i64 3, .int .i64 0, .int .i64 6, .int .i64 0, .int .u32 0, .int .u32 0, .int .u32 0, .int .u64 0, .int .u64 0, .int .u64 0, .int .u64 tx] ∧ Below wd.heap.size wd w') rfl rfl (by kernel_rfl) (by rfl) ((refAsk_any tx _).mono fun e q hq => ⟨_, hq.1, rfl, hq.2⟩) (by go_simp) ?_
  rintro v we ⟨rfl, hbm⟩
  have hHeld2 : Below x21.heap.size x21 we := below_via hHeld hbm hHeld.size
  refine ⟨hHeld2, ?_⟩
  clear hHeld hbm
  have hHeld := hHeld2
  clear hHeld2
  try simp only [Act.put, List.setIfInBounds_toArray, List.set_cons_zero, List.set_cons_succ]
  refine take_val (i := 38) (d := (some 115)) (v := ?_) rfl rfl (by kernel_rfl) (by kernel_rfl) (by kernel_rfl) hPQ (by rfl) (fun wq hSw => ?_) hHeld ?_
  rotate_left 1
  · replace hSw : Below x21.heap.size x21 wq := hSw; have cQ := (BQ.out.stays hSw).cell; have cG := (BG.out.stays hSw).cell; have cK := (BK.out.stays hSw).cell; have cP := (BP.out.stays hSw).cell; have cR := (BR.out.stays hSw).cell; go_simp; try with_reducible rfl
  try simp only [Act.put, List.setIfInBounds_toArray, List.set_cons_zero, List.set_cons_succ]
  refine take_val (i := 39) (d := (some 116)) (v := ?_) rfl rfl (by kernel_rfl) (by kernel_rfl) (by kernel_rfl) hPQ (by rfl) (fun wq hSw => ?_) hHeld ?_
  rotate_left 1
  · replace hSw : Below x21.heap.size x21 wq := hSw; have cQ := (BQ.out.stays hSw).cell; have cG := (BG.out.stays hSw).cell; have cK := (BK.out.stays hSw).cell; have cP := (BP.out.stays hSw).cell; have cR := (BR.out.stays hSw).cell; go_simp; try with_reducible rfl
  try simp only [Act.put, List.setIfInBounds_toArray, List.set_cons_zero, List.set_cons_succ]
  refine take_val (i := 40) (d := (some 117)) (v := ?_) rfl rfl (by kernel_rfl) (by kernel_rfl) (by kernel_rfl) hPQ (by rfl) (fun wq hSw => ?_) hHeld ?_
  rotate_left 1
  · replace hSw : Below x21.heap.size x21 wq := hSw; have cQ := (BQ.out.stays hSw).cell; have cG := (BG.out.stays hSw).cell; have cK := (BK.out.stays hSw).cell; have cP := (BP.out.stays hSw).cell; have cR := (BR.out.stays hSw).cell; go_simp; try with_reducible rfl
  try simp only [Act.put, List.setIfInBounds_toArray, List.set_cons_zero, List.set_cons_succ]
  refine take_val (i := 41) (d := (some 118)) (v := ?_) rfl rfl (by kernel_rfl) (by kernel_rfl) (by kernel_rfl) hPQ (by rfl) (fun wq hSw => ?_) hHeld ?_
  rotate_left 1
  · replace hSw : Below x21.heap.size x21 wq := hSw; have cQ := (BQ.out.stays hSw).cell; have cG := (BG.out.stays hSw).cell; have cK := (BK.out.stays hSw).cell; have cP := (BP.out.stays hSw).cell; have cR := (BR.out.stays hSw).cell; go_simp; try with_reducible rfl
  try simp only [Act.put, List.setIfInBounds_toArray, List.set_cons_zero, List.set_cons_succ]
  refine take_val (i := 42) (d := (some 119)) (v := ?_) rfl rfl (by kernel_rfl) (by kernel_rfl) (by kernel_rfl) hPQ (by rfl) (fun wq hSw => ?_) hHeld ?_
  rotate_left 1
  · replace hSw : Below x21.heap.size x21 wq := hSw; have cQ := (BQ.out.stays hSw).cell; have cG := (BG.out.stays hSw).cell; have cK := (BK.out.stays hSw).cell; have cP := (BP.out.stays hSw).cell; have cR := (BR.out.stays hSw).cell; go_simp; try with_reducible rfl
  try simp only [Act.put, List.setIfInBounds_toArray, List.set_cons_zero, List.set_cons_succ]
  refine take_val (i := 43) (d := (some 120)) (v := ?_) rfl rfl (by kernel_rfl) (by kernel_rfl) (by kernel_rfl) hPQ (by rfl) (fun wq hSw => ?_) hHeld ?_
  rotate_left 1
  · replace hSw : Below x21.heap.size x21 wq := hSw; have cQ := (BQ.out.stays hSw).cell; have cG := (BG.out.stays hSw).cell; have cK := (BK.out.stays hSw).cell; have cP := (BP.out.stays hSw).cell; have cR := (BR.out.stays hSw).cell; go_simp; try with_reducible rfl
  try simp only [Act.put, List.setIfInBounds_toArray, List.set_cons_zero, List.set_cons_succ]
  refine take_val (i := 44) (d := (some 121)) (v := ?_) rfl rfl (by kernel_rfl) (by kernel_rfl) (by kernel_rfl) hPQ (by rfl) (fun wq hSw => ?_) hHeld ?_
  rotate_left 1
  · replace hSw : Below x21.heap.size x21 wq := hSw; have cQ := (BQ.out.stays hSw).cell; have cG := (BG.out.stays hSw).cell; have cK := (BK.out.stays hSw).cell; have cP := (BP.out.stays hSw).cell; have cR := (BR.out.stays hSw).cell; go_simp; try with_reducible rfl
  try simp only [Act.put, List.setIfInBounds_toArray, List.set_cons_zero, List.set_cons_succ]
  refine take_val (i := 45) (d := (some 122)) (v := ?_) rfl rfl (by kernel_rfl) (by kernel_rfl) (by kernel_rfl) hPQ (by rfl) (fun wq hSw => ?_) hHeld ?_
  rotate_left 1
  · replace hSw : Below x21.heap.size x21 wq := hSw; have cQ := (BQ.out.stays hSw).cell; have cG := (BG.out.stays hSw).cell; have cK := (BK.out.stays hSw).cell; have cP := (BP.out.stays hSw).cell; have cR := (BR.out.stays hSw).cell; go_simp; try with_reducible rfl
  try simp only [Act.put, List.setIfInBounds_toArray, List.set_cons_zero, List.set_cons_succ]
  refine take_val (i := 46) (d := (some 123)) (v := ?_) rfl rfl (by kernel_rfl) (by kernel_rfl) (by kernel_rfl) hPQ (by rfl) (fun wq hSw => ?_) hHeld ?_
  rotate_left 1
  · replace hSw : Below x21.heap.size x21 wq := hSw; have cQ := (BQ.out.stays hSw).cell; have cG := (BG.out.stays hSw).cell; have cK := (BK.out.stays hSw).cell; have cP := (BP.out.stays hSw).cell; have cR := (BR.out.stays hSw).cell; go_simp; try with_reducible rfl
  try simp only [Act.put, List.setIfInBounds_toArray, List.set_cons_zero, List.set_cons_succ]
  refine take_val (i := 47) (d := (some 124)) (v := ?_) rfl rfl (by kernel_rfl) (by kernel_rfl) (by kernel_rfl) hPQ (by rfl) (fun wq hSw => ?_) hHeld ?_
  rotate_left 1
  · replace hSw : Below x21.heap.size x21 wq := hSw; have cQ := (BQ.out.stays hSw).cell; have cG := (BG.out.stays hSw).cell; have cK := (BK.out.stays hSw).cell; have cP := (BP.out.stays hSw).cell; have cR := (BR.out.stays hSw).cell; go_simp; try with_reducible rfl
  try simp only [Act.put, List.setIfInBounds_toArray, List.set_cons_zero, List.set_cons_succ]
  refine take_val (i := 48) (d := (some 125)) (v := ?_) rfl rfl (by kernel_rfl) (by kernel_rfl) (by kernel_rfl) hPQ (by rfl) (fun wq hSw => ?_) hHeld ?_
  rotate_left 1
  · replace hSw : Below x21.heap.size x21 wq := hSw; have cQ := (BQ.out.stays hSw).cell; have cG := (BG.out.stays hSw).cell; have cK := (BK.out.stays hSw).cell; have cP := (BP.out.stays hSw).cell; have cR := (BR.out.stays hSw).cell; go_simp; try with_reducible rfl
  try simp only [Act.put, List.setIfInBounds_toArray, List.set_cons_zero, List.set_cons_succ]
  refine take_val (i := 49) (d := (some 126)) (v := ?_) rfl rfl (by kernel_rfl) (by kernel_rfl) (by kernel_rfl) hPQ (by rfl) (fun wq hSw => ?_) hHeld ?_
  rotate_left 1
  · replace hSw : Below x21.heap.size x21 wq := hSw; have cQ := (BQ.out.stays hSw).cell; have cG := (BG.out.stays hSw).cell; have cK := (BK.out.stays hSw).cell; have cP := (BP.out.stays hSw).cell; have cR := (BR.out.stays hSw).cell; go_simp; try with_reducible rfl
  try simp only [Act.put, List.setIfInBounds_toArray, List.set_cons_zero, List.set_cons_succ]
  refine take_val (i := 50) (d := (some 10)) (v := ?_) rfl rfl (by kernel_rfl) (by kernel_rfl) (by kernel_rfl) hPQ (by rfl) (fun wq hSw => ?_) hHeld ?_
  rotate_left 1
  · replace hSw : Below x21.heap.size x21 wq := hSw; have cQ := (BQ.out.stays hSw).cell; have cG := (BG.out.stays hSw).cell; have cK := (BK.out.stays hSw).cell; have cP := (BP.out.stays hSw).cell; have cR := (BR.out.stays hSw).cell; go_simp; try with_reducible rfl
  try simp only [Act.put, List.setIfInBounds_toArray, List.set_cons_zero, List.set_cons_succ]
  refine wpAnyH_done (by kernel_rfl) ?_ _
  have RF := Lib.hid (R22.out.trans (hHeld.mono hz_x21))
  clear hHeld
  go_wp2
  go_ret
  exact ⟨rfl, RF.out⟩
set_option maxRecDepth 100000 in
set_option maxHeartbeats 8000000 in
theorem pacts_near2 (h0 h1 h2 h3 h4 h5 : Int) (h6 h7 h8 h9 h10 h11 h12 : Nat) (z6 : h6 < 4294967296) (z7 : h7 < 4294967296) (z8 : h8 < 4294967296) (z9 : h9 < 18446744073709551616) (z10 : h10 < 18446744073709551616) (z11 : h11 < 18446744073709551616) (z12 : h12 < 18446744073709551616) (st : Int) (rc tx : Nat) (A : Option Addr) (n c : Nat) (l : List UInt8) (w : World) (hv : Bytes w A n c l) (g1 : 1280 < n) (g2 : n ≤ 1500) : Calls Try.prog 12 #[.agg #[.int .i64 h0, .int .i64 h1, .int .i64 h2, .int .i64 h3, .int .i64 h4, .int .i64 h5, .int .u32 h6, .int .u32 h7, .int .u32 h8, .int .u64 h9, .int .u64 h10, .int .u64 h11, .int .u64 h12], .slice A n c, .int .i64 st, .int .u64 rc, .int .u64 tx] w fun e w' => e = .returned (.bool true) ∧ Below w.heap.size w w' := by
  have q1 := hv.le
  have q2 := hv.cap
  have V0 := Lib.hid hv
  clear hv
  have i1 : (n : Int) > 200 := by omega
  have i2 : ¬ (n : Int) ≤ 1280 := by omega
  have i3 : ¬ (n : Int) > 1500 := by omega
  clear g1 g2
  have Z6 := Lib.hid z6
  have Z7 := Lib.hid z7
  have Z8 := Lib.hid z8
  have Z9 := Lib.hid z9
  have Z10 := Lib.hid z10
  have Z11 := Lib.hid z11
  have Z12 := Lib.hid z12
  clear z6 z7 z8 z9 z10 z11 z12
  go_enter Try.func12, Try.ntmps12
  go_upto_region 1 with fail
  obtain ⟨x1, q_, ex1, eq_⟩ : ∃ x1 q_, x1 = w.alloc (.cells #[.int .i64 h0, .int .i64 h1, .int .i64 h2, .int .i64 h3, .int .i64 h4, .int .i64 h5, .int .u32 h6, .int .u32 h7, .int .u32 h8, .int .u64 h9, .int .u64 h10, .int .u64 h11, .int .u64 h12] 25) ∧ q_ = w.heap.size := ⟨_, _, rfl, rfl⟩
  rw [← ex1, ← eq_]
  have hbx : Below w.heap.size w x1 := by rw [ex1]; exact below_alloc1 _ _ 
  have g_Q : w.heap.size ≤ q_ := by rw [eq_]; exact Nat.le_refl _
  have BQ := Lib.hid (show Blk x1 q_ 25 #[.int .i64 h0, .int .i64 h1, .int .i64 h2, .int .i64 h3, .int .i64 h4, .int .i64 h5, .int .u32 h6, .int .u32 h7, .int .u32 h8, .int .u64 h9, .int .u64 h10, .int .u64 h11, .int .u64 h12] by rw [ex1, eq_]; exact blk_new1_0 _ _ _ )
  have R2 := Lib.hid hbx
  have hz_x1 := R2.out.size
  clear hbx ex1 eq_
  have V := Lib.hid (V0.out.stays R2.out)
  have kQ_0 : x1.cell? ⟨q_, 0, none⟩ = some (.int .i64 h0) := BQ.out.cell 0
  have kQ_1 : x1.cell? ⟨q_, 1, none⟩ = some (.int .i64 h1) := BQ.out.cell 1
  have kQ_2 : x1.cell? ⟨q_, 2, none⟩ = some (.int .i64 h2) := BQ.out.cell 2
  have kQ_3 : x1.cell? ⟨q_, 3, none⟩ = some (.int .i64 h3) := BQ.out.cell 3
  have kQ_4 : x1.cell? ⟨q_, 4, none⟩ = some (.int .i64 h4) := BQ.out.cell 4
  have kQ_5 : x1.cell? ⟨q_, 5, none⟩ = some (.int .i64 h5) := BQ.out.cell 5
  have kQ_6 : x1.cell? ⟨q_, 6, none⟩ = some (.int .u32 h6) := BQ.out.cell 6
  have kQ_7 : x1.cell? ⟨q_, 7, none⟩ = some (.int .u32 h7) := BQ.out.cell 7
  have kQ_8 : x1.cell? ⟨q_, 8, none⟩ = some (.int .u32 h8) := BQ.out.cell 8
  have kQ_9 : x1.cell? ⟨q_, 9, none⟩ = some (.int .u64 h9) := BQ.out.cell 9
  have kQ_10 : x1.cell? ⟨q_, 10, none⟩ = some (.int .u64 h10) := BQ.out.cell 10
  have kQ_11 : x1.cell? ⟨q_, 11, none⟩ = some (.int .u64 h11) := BQ.out.cell 11
  have kQ_12 : x1.cell? ⟨q_, 12, none⟩ = some (.int .u64 h12) := BQ.out.cell 12
  go_wp2_with fail
  refine (enc_any h0 h1 h2 h3 h4 h5 h6 h7 h8 h9 h10 h11 h12 Z6.out Z7.out Z8.out Z9.out Z10.out Z11.out Z12.out _).mono ?_
  rintro e y3 ⟨A1, c1, rfl, hx, hb⟩
  clear kQ_0 kQ_1 kQ_2 kQ_3 kQ_4 kQ_5 kQ_6 kQ_7 kQ_8 kQ_9 kQ_10 kQ_11 kQ_12
  have hbx : Below x1.heap.size x1 y3 := below_via (by go_grown) hb (by first | (simp; done) | (simp; omega))
  have BQ := Lib.hid (BQ.out.stays hbx)
  have V := Lib.hid (V.out.stays hbx)
  have VX := Lib.hid hx
  have R4 := Lib.hid (R2.out.trans (hbx.mono hz_x1))
  have hz_y3 := R4.out.size
  clear hb hbx hx R2 hz_x1
  have kQ_0 : y3.cell? ⟨q_, 0, none⟩ = some (.int .i64 h0) := BQ.out.cell 0
  have kQ_1 : y3.cell? ⟨q_, 1, none⟩ = some (.int .i64 h1) := BQ.out.cell 1
  have kQ_2 : y3.cell? ⟨q_, 2, none⟩ = some (.int .i64 h2) := BQ.out.cell 2
  have kQ_3 : y3.cell? ⟨q_, 3, none⟩ = some (.int .i64 h3) := BQ.out.cell 3
  have kQ_4 : y3.cell? ⟨q_, 4, none⟩ = some (.int .i64 h4) := BQ.out.cell 4
  have kQ_5 : y3.cell? ⟨q_, 5, none⟩ = some (.int .i64 h5) := BQ.out.cell 5
  have kQ_6 : y3.cell? ⟨q_, 6, none⟩ = some (.int .u32 h6) := BQ.out.cell 6
  have kQ_7 : y3.cell? ⟨q_, 7, none⟩ = some (.int .u32 h7) := BQ.out.cell 7
  have kQ_8 : y3.cell? ⟨q_, 8, none⟩ = some (.int .u32 h8) := BQ.out.cell 8
  have kQ_9 : y3.cell? ⟨q_, 9, none⟩ = some (.int .u64 h9) := BQ.out.cell 9
  have kQ_10 : y3.cell? ⟨q_, 10, none⟩ = some (.int .u64 h10) := BQ.out.cell 10
  have kQ_11 : y3.cell? ⟨q_, 11, none⟩ = some (.int .u64 h11) := BQ.out.cell 11
  have kQ_12 : y3.cell? ⟨q_, 12, none⟩ = some (.int .u64 h12) := BQ.out.cell 12
  go_wp2_with fail
  refine (refEnc_any h0 h1 h2 h3 h4 h5 h6 h7 h8 h9 h10 h11 h12 Z6.out Z7.out Z8.out Z9.out Z10.out Z11.out Z12.out _).mono ?_
  rintro e y5 ⟨A2, c2, rfl, hx, hb⟩
  clear kQ_0 kQ_1 kQ_2 kQ_3 kQ_4 kQ_5 kQ_6 kQ_7 kQ_8 kQ_9 kQ_10 kQ_11 kQ_12
  have hbx : Below y3.heap.size y3 y5 := below_via (by go_grown) hb (by first | (simp; done) | (simp; omega))
  have BQ := Lib.hid (BQ.out.stays hbx)
  have V := Lib.hid (V.out.stays hbx)
  have VX := Lib.hid (VX.out.stays hbx)
  have VY := Lib.hid hx
  have R6 := Lib.hid (R4.out.trans (hbx.mono hz_y3))
  have hz_y5 := R6.out.size
  clear hb hbx hx R4 hz_y3
  go_wp2_with fail
  refine (dec_any _ _ _ _ _ V.out).mono ?_
  rintro e y7 ⟨A3, c3, rfl, hx, hb⟩
  have hbx : Below y5.heap.size y5 y7 := below_via (by go_grown) hb (by first | (simp; done) | (simp; omega))
  have BQ := Lib.hid (BQ.out.stays hbx)
  have V := Lib.hid (V.out.stays hbx)
  have VX := Lib.hid (VX.out.stays hbx)
  have VY := Lib.hid (VY.out.stays hbx)
  have VR := Lib.hid hx
  have R8 := Lib.hid (R6.out.trans (hbx.mono hz_y5))
  have hz_y7 := R8.out.size
  clear hb hbx hx R6 hz_y5
  go_upto_region 6 with fail
  obtain ⟨x9, g_, ex9, eg_⟩ : ∃ x9 g_, x9 = y7.alloc (.cells #[.int .i64 (dcN n l (dcL l) : Nat), .int .i64 (dcN n l (dcV l) : Nat), .int .i64 (dcN n l (dcM l) : Nat), .int .i64 (dcN n l (byteAt l 1) : Nat), .int .i64 (dcI n l (sgnB (byteAt l 2))), .int .i64 (dcI n l (sgnB (byteAt l 3))), .int .u32 (dcN n l (dcU l 4 4) : Nat), .int .u32 (dcN n l (dcU l 8 4) : Nat), .int .u32 (dcN n l (dcU l 12 4) : Nat), .int .u64 (dcN n l (dcU l 16 8) : Nat), .int .u64 (dcN n l (dcU l 24 8) : Nat), .int .u64 (dcN n l (dcU l 32 8) : Nat), .int .u64 (dcN n l (dcU l 40 8) : Nat)] 25) ∧ g_ = y7.heap.size := ⟨_, _, rfl, rfl⟩
  rw [← ex9, ← eg_]
  have hbx : Below y7.heap.size y7 x9 := by rw [ex9]; exact below_alloc1 _ _ 
  have o_Q_G : q_ < g_ := by rw [eg_]; exact BQ.out.lt
  have g_G : w.heap.size ≤ g_ := by rw [eg_]; exact hz_y7
  have BQ := Lib.hid (BQ.out.stays hbx)
  have V := Lib.hid (V.out.stays hbx)
  have VX := Lib.hid (VX.out.stays hbx)
  have VY := Lib.hid (VY.out.stays hbx)
  have VR := Lib.hid (VR.out.stays hbx)
  have BG := Lib.hid (show Blk x9 g_ 25 #[.int .i64 (dcN n l (dcL l) : Nat), .int .i64 (dcN n l (dcV l) : Nat), .int .i64 (dcN n l (dcM l) : Nat), .int .i64 (dcN n l (byteAt l 1) : Nat), .int .i64 (dcI n l (sgnB (byteAt l 2))), .int .i64 (dcI n l (sgnB (byteAt l 3))), .int .u32 (dcN n l (dcU l 4 4) : Nat), .int .u32 (dcN n l (dcU l 8 4) : Nat), .int .u32 (dcN n l (dcU l 12 4) : Nat), .int .u64 (dcN n l (dcU l 16 8) : Nat), .int .u64 (dcN n l (dcU l 24 8) : Nat), .int .u64 (dcN n l (dcU l 32 8) : Nat), .int .u64 (dcN n l (dcU l 40 8) : Nat)] by rw [ex9, eg_]; exact blk_new1_0 _ _ _ )
  have R10 := Lib.hid (R8.out.trans (hbx.mono hz_y7))
  have hz_x9 := R10.out.size
  clear hbx ex9 eg_ R8 hz_y7
  go_wp2_with fail
  refine (refDec_any _ _ _ _ _ V.out).mono ?_
  rintro e y11 ⟨A4, c4, rfl, hx, hb⟩
  have hbx : Below x9.heap.size x9 y11 := below_via (by go_grown) hb (by first | (simp; done) | (simp; omega))
  have BQ := Lib.hid (BQ.out.stays hbx)
  have BG := Lib.hid (BG.out.stays hbx)
  have V := Lib.hid (V.out.stays hbx)
  have VX := Lib.hid (VX.out.stays hbx)
  have VY := Lib.hid (VY.out.stays hbx)
  have VR := Lib.hid (VR.out.stays hbx)
  have VS := Lib.hid hx
  have R12 := Lib.hid (R10.out.trans (hbx.mono hz_x9))
  have hz_y11 := R12.out.size
  clear hb hbx hx R10 hz_x9
  go_upto_region 7 with fail
  obtain ⟨x13, k_, ex13, ek_⟩ : ∃ x13 k_, x13 = y11.alloc (.cells #[.int .i64 (dcN n l (dcL l) : Nat), .int .i64 (dcN n l (dcV l) : Nat), .int .i64 (dcN n l (dcM l) : Nat), .int .i64 (dcN n l (byteAt l 1) : Nat), .int .i64 (dcI n l (sgnB (byteAt l 2))), .int .i64 (dcI n l (sgnB (byteAt l 3))), .int .u32 (dcN n l (dcU l 4 4) : Nat), .int .u32 (dcN n l (dcU l 8 4) : Nat), .int .u32 (dcN n l (dcU l 12 4) : Nat), .int .u64 (dcN n l (dcU l 16 8) : Nat), .int .u64 (dcN n l (dcU l 24 8) : Nat), .int .u64 (dcN n l (dcU l 32 8) : Nat), .int .u64 (dcN n l (dcU l 40 8) : Nat)] 25) ∧ k_ = y11.heap.size := ⟨_, _, rfl, rfl⟩
  rw [← ex13, ← ek_]
  have hbx : Below y11.heap.size y11 x13 := by rw [ex13]; exact below_alloc1 _ _ 
  have o_Q_K : q_ < k_ := by rw [ek_]; exact BQ.out.lt
  have o_G_K : g_ < k_ := by rw [ek_]; exact BG.out.lt
  have g_K : w.heap.size ≤ k_ := by rw [ek_]; exact hz_y11
  have BQ := Lib.hid (BQ.out.stays hbx)
  have BG := Lib.hid (BG.out.stays hbx)
  have V := Lib.hid (V.out.stays hbx)
  have VX := Lib.hid (VX.out.stays hbx)
  have VY := Lib.hid (VY.out.stays hbx)
  have VR := Lib.hid (VR.out.stays hbx)
  have VS := Lib.hid (VS.out.stays hbx)
  have BK := Lib.hid (show Blk x13 k_ 25 #[.int .i64 (dcN n l (dcL l) : Nat), .int .i64 (dcN n l (dcV l) : Nat), .int .i64 (dcN n l (dcM l) : Nat), .int .i64 (dcN n l (byteAt l 1) : Nat), .int .i64 (dcI n l (sgnB (byteAt l 2))), .int .i64 (dcI n l (sgnB (byteAt l 3))), .int .u32 (dcN n l (dcU l 4 4) : Nat), .int .u32 (dcN n l (dcU l 8 4) : Nat), .int .u32 (dcN n l (dcU l 12 4) : Nat), .int .u64 (dcN n l (dcU l 16 8) : Nat), .int .u64 (dcN n l (dcU l 24 8) : Nat), .int .u64 (dcN n l (dcU l 32 8) : Nat), .int .u64 (dcN n l (dcU l 40 8) : Nat)] by rw [ex13, ek_]; exact blk_new1_0 _ _ _ )
  have R14 := Lib.hid (R12.out.trans (hbx.mono hz_y11))
  have hz_x13 := R14.out.size
  clear hbx ex13 ek_ R12 hz_y11
  have kQ_0 : x13.cell? ⟨q_, 0, none⟩ = some (.int .i64 h0) := BQ.out.cell 0
  have kQ_1 : x13.cell? ⟨q_, 1, none⟩ = some (.int .i64 h1) := BQ.out.cell 1
  have kQ_2 : x13.cell? ⟨q_, 2, none⟩ = some (.int .i64 h2) := BQ.out.cell 2
  have kQ_3 : x13.cell? ⟨q_, 3, none⟩ = some (.int .i64 h3) := BQ.out.cell 3
  have kQ_4 : x13.cell? ⟨q_, 4, none⟩ = some (.int .i64 h4) := BQ.out.cell 4
  have kQ_5 : x13.cell? ⟨q_, 5, none⟩ = some (.int .i64 h5) := BQ.out.cell 5
  have kQ_6 : x13.cell? ⟨q_, 6, none⟩ = some (.int .u32 h6) := BQ.out.cell 6
  have kQ_7 : x13.cell? ⟨q_, 7, none⟩ = some (.int .u32 h7) := BQ.out.cell 7
  have kQ_8 : x13.cell? ⟨q_, 8, none⟩ = some (.int .u32 h8) := BQ.out.cell 8
  have kQ_9 : x13.cell? ⟨q_, 9, none⟩ = some (.int .u64 h9) := BQ.out.cell 9
  have kQ_10 : x13.cell? ⟨q_, 10, none⟩ = some (.int .u64 h10) := BQ.out.cell 10
  have kQ_11 : x13.cell? ⟨q_, 11, none⟩ = some (.int .u64 h11) := BQ.out.cell 11
  have kQ_12 : x13.cell? ⟨q_, 12, none⟩ = some (.int .u64 h12) := BQ.out.cell 12
  go_wp2_with fail
  refine (reply_any h0 h1 h2 h3 h4 h5 h6 h7 h8 h9 h10 h11 h12 st rc tx _).mono ?_
  rintro e y15 ⟨rfl, hb⟩
  clear kQ_0 kQ_1 kQ_2 kQ_3 kQ_4 kQ_5 kQ_6 kQ_7 kQ_8 kQ_9 kQ_10 kQ_11 kQ_12
  have hbx : Below x13.heap.size x13 y15 := below_via (by go_grown) hb (by first | (simp; done) | (simp; omega))
  have BQ := Lib.hid (BQ.out.stays hbx)
  have BG := Lib.hid (BG.out.stays hbx)
  have BK := Lib.hid (BK.out.stays hbx)
  have V := Lib.hid (V.out.stays hbx)
  have VX := Lib.hid (VX.out.stays hbx)
  have VY := Lib.hid (VY.out.stays hbx)
  have VR := Lib.hid (VR.out.stays hbx)
  have VS := Lib.hid (VS.out.stays hbx)
  have R16 := Lib.hid (R14.out.trans (hbx.mono hz_x13))
  have hz_y15 := R16.out.size
  clear hb hbx  R14 hz_x13
  go_upto_region 8 with fail
  obtain ⟨x17, p_, ex17, ep_⟩ : ∃ x17 p_, x17 = y15.alloc (.cells #[.int .i64 0, .int .i64 (ryI (replyE h0 h1 h2 h3 h4 h5 st) h1), .int .i64 (ryI (replyE h0 h1 h2 h3 h4 h5 st) 4), .int .i64 (ryI (replyE h0 h1 h2 h3 h4 h5 st) st), .int .i64 (ryI (replyE h0 h1 h2 h3 h4 h5 st) h4), .int .i64 (ryI (replyE h0 h1 h2 h3 h4 h5 st) (-20)), .int .u32 0, .int .u32 0, .int .u32 0, .int .u64 0, .int .u64 (ryN (replyE h0 h1 h2 h3 h4 h5 st) h12 : Nat), .int .u64 (ryN (replyE h0 h1 h2 h3 h4 h5 st) rc : Nat), .int .u64 (ryN (replyE h0 h1 h2 h3 h4 h5 st) tx : Nat)] 25) ∧ p_ = y15.heap.size := ⟨_, _, rfl, rfl⟩
  rw [← ex17, ← ep_]
  have hbx : Below y15.heap.size y15 x17 := by rw [ex17]; exact below_alloc1 _ _ 
  have o_Q_P : q_ < p_ := by rw [ep_]; exact BQ.out.lt
  have o_G_P : g_ < p_ := by rw [ep_]; exact BG.out.lt
  have o_K_P : k_ < p_ := by rw [ep_]; exact BK.out.lt
  have g_P : w.heap.size ≤ p_ := by rw [ep_]; exact hz_y15
  have BQ := Lib.hid (BQ.out.stays hbx)
  have BG := Lib.hid (BG.out.stays hbx)
  have BK := Lib.hid (BK.out.stays hbx)
  have V := Lib.hid (V.out.stays hbx)
  have VX := Lib.hid (VX.out.stays hbx)
  have VY := Lib.hid (VY.out.stays hbx)
  have VR := Lib.hid (VR.out.stays hbx)
  have VS := Lib.hid (VS.out.stays hbx)
  have BP := Lib.hid (show Blk x17 p_ 25 #[.int .i64 0, .int .i64 (ryI (replyE h0 h1 h2 h3 h4 h5 st) h1), .int .i64 (ryI (replyE h0 h1 h2 h3 h4 h5 st) 4), .int .i64 (ryI (replyE h0 h1 h2 h3 h4 h5 st) st), .int .i64 (ryI (replyE h0 h1 h2 h3 h4 h5 st) h4), .int .i64 (ryI (replyE h0 h1 h2 h3 h4 h5 st) (-20)), .int .u32 0, .int .u32 0, .int .u32 0, .int .u64 0, .int .u64 (ryN (replyE h0 h1 h2 h3 h4 h5 st) h12 : Nat), .int .u64 (ryN (replyE h0 h1 h2 h3 h4 h5 st) rc : Nat), .int .u64 (ryN (replyE h0 h1 h2 h3 h4 h5 st) tx : Nat)] by rw [ex17, ep_]; exact blk_new1_0 _ _ _ )
  have R18 := Lib.hid (R16.out.trans (hbx.mono hz_y15))
  have hz_x17 := R18.out.size
  clear hbx ex17 ep_ R16 hz_y15
  have kQ_0 : x17.cell? ⟨q_, 0, none⟩ = some (.int .i64 h0) := BQ.out.cell 0
  have kQ_1 : x17.cell? ⟨q_, 1, none⟩ = some (.int .i64 h1) := BQ.out.cell 1
  have kQ_2 : x17.cell? ⟨q_, 2, none⟩ = some (.int .i64 h2) := BQ.out.cell 2
  have kQ_3 : x17.cell? ⟨q_, 3, none⟩ = some (.int .i64 h3) := BQ.out.cell 3
  have kQ_4 : x17.cell? ⟨q_, 4, none⟩ = some (.int .i64 h4) := BQ.out.cell 4
  have kQ_5 : x17.cell? ⟨q_, 5, none⟩ = some (.int .i64 h5) := BQ.out.cell 5
  have kQ_6 : x17.cell? ⟨q_, 6, none⟩ = some (.int .u32 h6) := BQ.out.cell 6
  have kQ_7 : x17.cell? ⟨q_, 7, none⟩ = some (.int .u32 h7) := BQ.out.cell 7
  have kQ_8 : x17.cell? ⟨q_, 8, none⟩ = some (.int .u32 h8) := BQ.out.cell 8
  have kQ_9 : x17.cell? ⟨q_, 9, none⟩ = some (.int .u64 h9) := BQ.out.cell 9
  have kQ_10 : x17.cell? ⟨q_, 10, none⟩ = some (.int .u64 h10) := BQ.out.cell 10
  have kQ_11 : x17.cell? ⟨q_, 11, none⟩ = some (.int .u64 h11) := BQ.out.cell 11
  have kQ_12 : x17.cell? ⟨q_, 12, none⟩ = some (.int .u64 h12) := BQ.out.cell 12
  go_wp2_with fail
  refine (refReply_any h0 h1 h2 h3 h4 h5 h6 h7 h8 h9 h10 h11 h12 st rc tx _).mono ?_
  rintro e y19 ⟨rfl, hb⟩
  clear kQ_0 kQ_1 kQ_2 kQ_3 kQ_4 kQ_5 kQ_6 kQ_7 kQ_8 kQ_9 kQ_10 kQ_11 kQ_12
  have hbx : Below x17.heap.size x17 y19 := below_via (by go_grown) hb (by first | (simp; done) | (simp; omega))
  have BQ := Lib.hid (BQ.out.stays hbx)
  have BG := Lib.hid (BG.out.stays hbx)
  have BK := Lib.hid (BK.out.stays hbx)
  have BP := Lib.hid (BP.out.stays hbx)
  have V := Lib.hid (V.out.stays hbx)
  have VX := Lib.hid (VX.out.stays hbx)
  have VY := Lib.hid (VY.out.stays hbx)
  have VR := Lib.hid (VR.out.stays hbx)
  have VS := Lib.hid (VS.out.stays hbx)
  have R20 := Lib.hid (R18.out.trans (hbx.mono hz_x17))
  have hz_y19 := R20.out.size
  clear hb hbx  R18 hz_x17
  go_upto_region 9 with fail
  obtain ⟨x21, r_, ex21, er_⟩ : ∃ x21 r_, x21 = y19.alloc (.cells #[.int .i64 0, .int .i64 (ryI (replyE h0 h1 h2 h3 h4 h5 st) h1), .int .i64 (ryI (replyE h0 h1 h2 h3 h4 h5 st) 4), .int .i64 (ryI (replyE h0 h1 h2 h3 h4 h5 st) st), .int .i64 (ryI (replyE h0 h1 h2 h3 h4 h5 st) h4), .int .i64 (ryI (replyE h0 h1 h2 h3 h4 h5 st) (-20)), .int .u32 0, .int .u32 0, .int .u32 0, .int .u64 0, .int .u64 (ryN (replyE h0 h1 h2 h3 h4 h5 st) h12 : Nat), .int .u64 (ryN (replyE h0 h1 h2 h3 h4 h5 st) rc : Nat), .int .u64 (ryN (replyE h0 h1 h2 h3 h4 h5 st) tx : Nat)] 25) ∧ r_ = y19.heap.size := ⟨_, _, rfl, rfl⟩
  rw [← ex21, ← er_]
  have hbx : Below y19.heap.size y19 x21 := by rw [ex21]; exact below_alloc1 _ _ 
  have o_Q_R : q_ < r_ := by rw [er_]; exact BQ.out.lt
  have o_G_R : g_ < r_ := by rw [er_]; exact BG.out.lt
  have o_K_R : k_ < r_ := by rw [er_]; exact BK.out.lt
  have o_P_R : p_ < r_ := by rw [er_]; exact BP.out.lt
  have g_R : w.heap.size ≤ r_ := by rw [er_]; exact hz_y19
  have BQ := Lib.hid (BQ.out.stays hbx)
  have BG := Lib.hid (BG.out.stays hbx)
  have BK := Lib.hid (BK.out.stays hbx)
  have BP := Lib.hid (BP.out.stays hbx)
  have V := Lib.hid (V.out.stays hbx)
  have VX := Lib.hid (VX.out.stays hbx)
  have VY := Lib.hid (VY.out.stays hbx)
  have VR := Lib.hid (VR.out.stays hbx)
  have VS := Lib.hid (VS.out.stays hbx)
  have BR := Lib.hid (show Blk x21 r_ 25 #[.int .i64 0, .int .i64 (ryI (replyE h0 h1 h2 h3 h4 h5 st) h1), .int .i64 (ryI (replyE h0 h1 h2 h3 h4 h5 st) 4), .int .i64 (ryI (replyE h0 h1 h2 h3 h4 h5 st) st), .int .i64 (ryI (replyE h0 h1 h2 h3 h4 h5 st) h4), .int .i64 (ryI (replyE h0 h1 h2 h3 h4 h5 st) (-20)), .int .u32 0, .int .u32 0, .int .u32 0, .int .u64 0, .int .u64 (ryN (replyE h0 h1 h2 h3 h4 h5 st) h12 : Nat), .int .u64 (ryN (replyE h0 h1 h2 h3 h4 h5 st) rc : Nat), .int .u64 (ryN (replyE h0 h1 h2 h3 h4 h5 st) tx : Nat)] by rw [ex21, er_]; exact blk_new1_0 _ _ _ )
  have R22 := Lib.hid (R20.out.trans (hbx.mono hz_y19))
  have hz_x21 := R22.out.size
  clear hbx ex21 er_ R20 hz_y19
  have l_Q := BQ.out.lt
  have l_G := BG.out.lt
  have l_K := BK.out.lt
  have l_P := BP.out.lt
  have l_R := BR.out.lt
  refine take_start (S := fun w' => Below x21.heap.size x21 w') (by kernel_rfl) ?hPQ_46 (Below.refl _ _).drew (fun hPQ hHeld => ?rest_46)
  case hPQ_46 => (repeat (with_reducible first | refine PQ.then ?_ | refine PQ.block ?_)); exact fun _ _ d _ _ h => by cases d <;> exact h
  refine take_makeg (j := 0) (d := (some 77)) (R := fun v w' => v = .bool true ∧ Below x21.drew.heap.size x21.drew w') rfl rfl (by kernel_rfl) (by rfl) ((pkKnown _).mono fun e q hq => ⟨_, hq.1, rfl, hq.2⟩) (by go_simp) ?_
  rintro v wa ⟨rfl, hbm⟩
  have hHeld2 : Below x21.heap.size x21 wa := below_via hHeld hbm hHeld.size
  refine ⟨hHeld2, ?_⟩
  clear hHeld hbm
  have hHeld := hHeld2
  clear hHeld2
  try simp only [Act.put, List.setIfInBounds_toArray, List.set_cons_zero, List.set_cons_succ]
  refine take_val (i := 1) (d := (some 78)) (v := ?_) rfl rfl (by kernel_rfl) (by kernel_rfl) (by kernel_rfl) hPQ (by rfl) (fun wq hSw => ?_) hHeld ?_
  rotate_left 1
  · replace hSw : Below x21.heap.size x21 wq := hSw; have cQ := (BQ.out.stays hSw).cell; have cG := (BG.out.stays hSw).cell; have cK := (BK.out.stays hSw).cell; have cP := (BP.out.stays hSw).cell; have cR := (BR.out.stays hSw).cell; go_simp; try with_reducible rfl
  try simp only [Act.put, List.setIfInBounds_toArray, List.set_cons_zero, List.set_cons_succ]
  refine take_val (i := 2) (d := (some 79)) (v := ?_) rfl rfl (by kernel_rfl) (by kernel_rfl) (by kernel_rfl) hPQ (by rfl) (fun wq hSw => ?_) hHeld ?_
  rotate_left 1
  · replace hSw : Below x21.heap.size x21 wq := hSw; have cQ := (BQ.out.stays hSw).cell; have cG := (BG.out.stays hSw).cell; have cK := (BK.out.stays hSw).cell; have cP := (BP.out.stays hSw).cell; have cR := (BR.out.stays hSw).cell; go_simp; try with_reducible rfl
  try simp only [Act.put, List.setIfInBounds_toArray, List.set_cons_zero, List.set_cons_succ]
  refine take_val (i := 4) (d := (some 81)) (v := ?_) rfl rfl (by kernel_rfl) (by kernel_rfl) (by kernel_rfl) hPQ (by rfl) (fun wq hSw => ?_) hHeld ?_
  rotate_left 1
  · replace hSw : Below x21.heap.size x21 wq := hSw; have cQ := (BQ.out.stays hSw).cell; have cG := (BG.out.stays hSw).cell; have cK := (BK.out.stays hSw).cell; have cP := (BP.out.stays hSw).cell; have cR := (BR.out.stays hSw).cell; go_simp; try with_reducible rfl
  try simp only [Act.put, List.setIfInBounds_toArray, List.set_cons_zero, List.set_cons_succ]
  refine take_makeg (j := 3) (d := (some 80)) (R := fun v w' => v = .int .i64 (encE h0 h1 h2 h3 h4 h5) ∧ Below wa.heap.size wa w') rfl rfl (by kernel_rfl) (by rfl) ((valid_any h0 h1 h2 h3 h4 h5 h6 h7 h8 h9 h10 h11 h12 _).mono fun e q hq => ⟨_, hq.1, rfl, hq.2⟩) (by go_simp) ?_
  rintro v wb ⟨rfl, hbm⟩
  have hHeld2 : Below x21.heap.size x21 wb := below_via hHeld hbm hHeld.size
  refine ⟨hHeld2, ?_⟩
  clear hHeld hbm
  have hHeld := hHeld2
  clear hHeld2
  try simp only [Act.put, List.setIfInBounds_toArray, List.set_cons_zero, List.set_cons_succ]
  refine take_makeg (j := 5) (d := (some 82)) (R := fun v w' => v = .int .i64 (encE h0 h1 h2 h3 h4 h5) ∧ Below wb.heap.size wb w') rfl rfl (by kernel_rfl) (by rfl) ((refValid_any h0 h1 h2 h3 h4 h5 h6 h7 h8 h9 h10 h11 h12 _).mono fun e q hq => ⟨_, hq.1, rfl, hq.2⟩) (by go_simp) ?_
  rintro v wc ⟨rfl, hbm⟩
  have hHeld2 : Below x21.heap.size x21 wc := below_via hHeld hbm hHeld.size
  refine ⟨hHeld2, ?_⟩
  clear hHeld hbm
  have hHeld := hHeld2
  clear hHeld2
  try simp only [Act.put, List.setIfInBounds_toArray, List.set_cons_zero, List.set_cons_succ]
  refine take_val (i := 6) (d := (some 83)) (v := ?_) rfl rfl (by kernel_rfl) (by kernel_rfl) (by kernel_rfl) hPQ (by rfl) (fun wq hSw => ?_) hHeld ?_
  rotate_left 1
  · replace hSw : Below x21.heap.size x21 wq := hSw; have cQ := (BQ.out.stays hSw).cell; have cG := (BG.out.stays hSw).cell; have cK := (BK.out.stays hSw).cell; have cP := (BP.out.stays hSw).cell; have cR := (BR.out.stays hSw).cell; go_simp; try with_reducible rfl
  try simp only [Act.put, List.setIfInBounds_toArray, List.set_cons_zero, List.set_cons_succ]
  refine take_val (i := 7) (d := (some 84)) (v := ?_) rfl rfl (by kernel_rfl) (by kernel_rfl) (by kernel_rfl) hPQ (by rfl) (fun wq hSw => ?_) hHeld ?_
  rotate_left 1
  · replace hSw : Below x21.heap.size x21 wq := hSw; have cQ := (BQ.out.stays hSw).cell; have cG := (BG.out.stays hSw).cell; have cK := (BK.out.stays hSw).cell; have cP := (BP.out.stays hSw).cell; have cR := (BR.out.stays hSw).cell; go_simp; try with_reducible rfl
  try simp only [Act.put, List.setIfInBounds_toArray, List.set_cons_zero, List.set_cons_succ]
  refine take_val (i := 8) (d := (some 85)) (v := ?_) rfl rfl (by kernel_rfl) (by kernel_rfl) (by kernel_rfl) hPQ (by rfl) (fun wq hSw => ?_) hHeld ?_
  rotate_left 1
  · replace hSw : Below x21.heap.size x21 wq := hSw; have cQ := (BQ.out.stays hSw).cell; have cG := (BG.out.stays hSw).cell; have cK := (BK.out.stays hSw).cell; have cP := (BP.out.stays hSw).cell; have cR := (BR.out.stays hSw).cell; go_simp; try with_reducible rfl
  try simp only [Act.put, List.setIfInBounds_toArray, List.set_cons_zero, List.set_cons_succ]
  refine take_val (i := 9) (d := (some 86)) (v := ?_) rfl rfl (by kernel_rfl) (by kernel_rfl) (by kernel_rfl) hPQ (by rfl) (fun wq hSw => ?_) hHeld ?_
  rotate_left 1
  · replace hSw : Below x21.heap.size x21 wq := hSw; have cQ := (BQ.out.stays hSw).cell; have cG := (BG.out.stays hSw).cell; have cK := (BK.out.stays hSw).cell; have cP := (BP.out.stays hSw).cell; have cR := (BR.out.stays hSw).cell; go_simp; try with_reducible rfl
  try simp only [Act.put, List.setIfInBounds_toArray, List.set_cons_zero, List.set_cons_succ]
  refine take_val (i := 10) (d := (some 87)) (v := ?_) rfl rfl (by kernel_rfl) (by kernel_rfl) (by kernel_rfl) hPQ (by rfl) (fun wq hSw => ?_) hHeld ?_
  rotate_left 1
  · replace hSw : Below x21.heap.size x21 wq := hSw; have cQ := (BQ.out.stays hSw).cell; have cG := (BG.out.stays hSw).cell; have cK := (BK.out.stays hSw).cell; have cP := (BP.out.stays hSw).cell; have cR := (BR.out.stays hSw).cell; go_simp; try with_reducible rfl
  try simp only [Act.put, List.setIfInBounds_toArray, List.set_cons_zero, List.set_cons_succ]
  refine take_val (i := 11) (d := (some 88)) (v := ?_) rfl rfl (by kernel_rfl) (by kernel_rfl) (by kernel_rfl) hPQ (by rfl) (fun wq hSw => ?_) hHeld ?_
  rotate_left 1
  · replace hSw : Below x21.heap.size x21 wq := hSw; have cQ := (BQ.out.stays hSw).cell; have cG := (BG.out.stays hSw).cell; have cK := (BK.out.stays hSw).cell; have cP := (BP.out.stays hSw).cell; have cR := (BR.out.stays hSw).cell; go_simp; try with_reducible rfl
  try simp only [Act.put, List.setIfInBounds_toArray, List.set_cons_zero, List.set_cons_succ]
  refine take_val (i := 12) (d := (some 89)) (v := ?_) rfl rfl (by kernel_rfl) (by kernel_rfl) (by kernel_rfl) hPQ (by rfl) (fun wq hSw => ?_) hHeld ?_
  rotate_left 1
  · replace hSw : Below x21.heap.size x21 wq := hSw; have cQ := (BQ.out.stays hSw).cell; have cG := (BG.out.stays hSw).cell; have cK := (BK.out.stays hSw).cell; have cP := (BP.out.stays hSw).cell; have cR := (BR.out.stays hSw).cell; go_simp; try with_reducible rfl
  try simp only [Act.put, List.setIfInBounds_toArray, List.set_cons_zero, List.set_cons_succ]
  refine take_val (i := 13) (d := (some 90)) (v := ?_) rfl rfl (by kernel_rfl) (by kernel_rfl) (by kernel_rfl) hPQ (by rfl) (fun wq hSw => ?_) hHeld ?_
  rotate_left 1
  · replace hSw : Below x21.heap.size x21 wq := hSw; have cQ := (BQ.out.stays hSw).cell; have cG := (BG.out.stays hSw).cell; have cK := (BK.out.stays hSw).cell; have cP := (BP.out.stays hSw).cell; have cR := (BR.out.stays hSw).cell; go_simp; try with_reducible rfl
  try simp only [Act.put, List.setIfInBounds_toArray, List.set_cons_zero, List.set_cons_succ]
  refine take_val (i := 14) (d := (some 91)) (v := ?_) rfl rfl (by kernel_rfl) (by kernel_rfl) (by kernel_rfl) hPQ (by rfl) (fun wq hSw => ?_) hHeld ?_
  rotate_left 1
  · replace hSw : Below x21.heap.size x21 wq := hSw; have cQ := (BQ.out.stays hSw).cell; have cG := (BG.out.stays hSw).cell; have cK := (BK.out.stays hSw).cell; have cP := (BP.out.stays hSw).cell; have cR := (BR.out.stays hSw).cell; go_simp; try with_reducible rfl
  try simp only [Act.put, List.setIfInBounds_toArray, List.set_cons_zero, List.set_cons_succ]
  refine take_val (i := 15) (d := (some 92)) (v := ?_) rfl rfl (by kernel_rfl) (by kernel_rfl) (by kernel_rfl) hPQ (by rfl) (fun wq hSw => ?_) hHeld ?_
  rotate_left 1
  · replace hSw : Below x21.heap.size x21 wq := hSw; have cQ := (BQ.out.stays hSw).cell; have cG := (BG.out.stays hSw).cell; have cK := (BK.out.stays hSw).cell; have cP := (BP.out.stays hSw).cell; have cR := (BR.out.stays hSw).cell; go_simp; try with_reducible rfl
  try simp only [Act.put, List.setIfInBounds_toArray, List.set_cons_zero, List.set_cons_succ]
  refine take_call (i := 16) (d := (some 93)) rfl rfl (by kernel_rfl) (by kernel_rfl) (by kernel_rfl) hPQ (by rfl) (fun wq hSw => (refSame_true (VX.out.stays hSw) (VY.out.stays hSw) rfl).mono (fun e q hq => ⟨hq.1, by first | exact hq.2 | exact hq.2.symm⟩)) (fun wq hSw => ?_) hHeld ?_
  · go_simp
  try simp only [Act.put, List.setIfInBounds_toArray, List.set_cons_zero, List.set_cons_succ]
  refine take_val (i := 17) (d := (some 94)) (v := ?_) rfl rfl (by kernel_rfl) (by kernel_rfl) (by kernel_rfl) hPQ (by rfl) (fun wq hSw => ?_) hHeld ?_
  rotate_left 1
  · replace hSw : Below x21.heap.size x21 wq := hSw; have cQ := (BQ.out.stays hSw).cell; have cG := (BG.out.stays hSw).cell; have cK := (BK.out.stays hSw).cell; have cP := (BP.out.stays hSw).cell; have cR := (BR.out.stays hSw).cell; go_simp; try with_reducible rfl
  try simp only [Act.put, List.setIfInBounds_toArray, List.set_cons_zero, List.set_cons_succ]
  refine take_val (i := 18) (d := (some 95)) (v := ?_) rfl rfl (by kernel_rfl) (by kernel_rfl) (by kernel_rfl) hPQ (by rfl) (fun wq hSw => ?_) hHeld ?_
  rotate_left 1
  · replace hSw : Below x21.heap.size x21 wq := hSw; have cQ := (BQ.out.stays hSw).cell; have cG := (BG.out.stays hSw).cell; have cK := (BK.out.stays hSw).cell; have cP := (BP.out.stays hSw).cell; have cR := (BR.out.stays hSw).cell; go_simp; try with_reducible rfl
  try simp only [Act.put, List.setIfInBounds_toArray, List.set_cons_zero, List.set_cons_succ]
  refine take_val (i := 19) (d := (some 96)) (v := ?_) rfl rfl (by kernel_rfl) (by kernel_rfl) (by kernel_rfl) hPQ (by rfl) (fun wq hSw => ?_) hHeld ?_
  rotate_left 1
  · replace hSw : Below x21.heap.size x21 wq := hSw; have cQ := (BQ.out.stays hSw).cell; have cG := (BG.out.stays hSw).cell; have cK := (BK.out.stays hSw).cell; have cP := (BP.out.stays hSw).cell; have cR := (BR.out.stays hSw).cell; go_simp; try with_reducible rfl
  try simp only [Act.put, List.setIfInBounds_toArray, List.set_cons_zero, List.set_cons_succ]
  refine take_val (i := 20) (d := (some 97)) (v := ?_) rfl rfl (by kernel_rfl) (by kernel_rfl) (by kernel_rfl) hPQ (by rfl) (fun wq hSw => ?_) hHeld ?_
  rotate_left 1
  · replace hSw : Below x21.heap.size x21 wq := hSw; have cQ := (BQ.out.stays hSw).cell; have cG := (BG.out.stays hSw).cell; have cK := (BK.out.stays hSw).cell; have cP := (BP.out.stays hSw).cell; have cR := (BR.out.stays hSw).cell; go_simp; try with_reducible rfl
  try simp only [Act.put, List.setIfInBounds_toArray, List.set_cons_zero, List.set_cons_succ]
  refine take_val (i := 21) (d := (some 98)) (v := ?_) rfl rfl (by kernel_rfl) (by kernel_rfl) (by kernel_rfl) hPQ (by rfl) (fun wq hSw => ?_) hHeld ?_
  rotate_left 1
  · replace hSw : Below x21.heap.size x21 wq := hSw; have cQ := (BQ.out.stays hSw).cell; have cG := (BG.out.stays hSw).cell; have cK := (BK.out.stays hSw).cell; have cP := (BP.out.stays hSw).cell; have cR := (BR.out.stays hSw).cell; go_simp; try with_reducible rfl
  try simp only [Act.put, List.setIfInBounds_toArray, List.set_cons_zero, List.set_cons_succ]
  refine take_val (i := 22) (d := (some 99)) (v := ?_) rfl rfl (by kernel_rfl) (by kernel_rfl) (by kernel_rfl) hPQ (by rfl) (fun wq hSw => ?_) hHeld ?_
  rotate_left 1
  · replace hSw : Below x21.heap.size x21 wq := hSw; have cQ := (BQ.out.stays hSw).cell; have cG := (BG.out.stays hSw).cell; have cK := (BK.out.stays hSw).cell; have cP := (BP.out.stays hSw).cell; have cR := (BR.out.stays hSw).cell; go_simp; try with_reducible rfl
  try simp only [Act.put, List.setIfInBounds_toArray, List.set_cons_zero, List.set_cons_succ]
  refine take_val (i := 23) (d := (some 100)) (v := ?_) rfl rfl (by kernel_rfl) (by kernel_rfl) (by kernel_rfl) hPQ (by rfl) (fun wq hSw => ?_) hHeld ?_
  rotate_left 1
  · replace hSw : Below x21.heap.size x21 wq := hSw; have cQ := (BQ.out.stays hSw).cell; have cG := (BG.out.stays hSw).cell; have cK := (BK.out.stays hSw).cell; have cP := (BP.out.stays hSw).cell; have cR := (BR.out.stays hSw).cell; go_simp; try with_reducible rfl
  try simp only [Act.put, List.setIfInBounds_toArray, List.set_cons_zero, List.set_cons_succ]
  refine take_val (i := 24) (d := (some 101)) (v := ?_) rfl rfl (by kernel_rfl) (by kernel_rfl) (by kernel_rfl) hPQ (by rfl) (fun wq hSw => ?_) hHeld ?_
  rotate_left 1
  · replace hSw : Below x21.heap.size x21 wq := hSw; have cQ := (BQ.out.stays hSw).cell; have cG := (BG.out.stays hSw).cell; have cK := (BK.out.stays hSw).cell; have cP := (BP.out.stays hSw).cell; have cR := (BR.out.stays hSw).cell; go_simp; try with_reducible rfl
  try simp only [Act.put, List.setIfInBounds_toArray, List.set_cons_zero, List.set_cons_succ]
  refine take_val (i := 25) (d := (some 102)) (v := ?_) rfl rfl (by kernel_rfl) (by kernel_rfl) (by kernel_rfl) hPQ (by rfl) (fun wq hSw => ?_) hHeld ?_
  rotate_left 1
  · replace hSw : Below x21.heap.size x21 wq := hSw; have cQ := (BQ.out.stays hSw).cell; have cG := (BG.out.stays hSw).cell; have cK := (BK.out.stays hSw).cell; have cP := (BP.out.stays hSw).cell; have cR := (BR.out.stays hSw).cell; go_simp; try with_reducible rfl
  try simp only [Act.put, List.setIfInBounds_toArray, List.set_cons_zero, List.set_cons_succ]
  refine take_val (i := 26) (d := (some 103)) (v := ?_) rfl rfl (by kernel_rfl) (by kernel_rfl) (by kernel_rfl) hPQ (by rfl) (fun wq hSw => ?_) hHeld ?_
  rotate_left 1
  · replace hSw : Below x21.heap.size x21 wq := hSw; have cQ := (BQ.out.stays hSw).cell; have cG := (BG.out.stays hSw).cell; have cK := (BK.out.stays hSw).cell; have cP := (BP.out.stays hSw).cell; have cR := (BR.out.stays hSw).cell; go_simp; try with_reducible rfl
  try simp only [Act.put, List.setIfInBounds_toArray, List.set_cons_zero, List.set_cons_succ]
  refine take_val (i := 27) (d := (some 104)) (v := ?_) rfl rfl (by kernel_rfl) (by kernel_rfl) (by kernel_rfl) hPQ (by rfl) (fun wq hSw => ?_) hHeld ?_
  rotate_left 1
  · replace hSw : Below x21.heap.size x21 wq := hSw; have cQ := (BQ.out.stays hSw).cell; have cG := (BG.out.stays hSw).cell; have cK := (BK.out.stays hSw).cell; have cP := (BP.out.stays hSw).cell; have cR := (BR.out.stays hSw).cell; go_simp; try with_reducible rfl
  try simp only [Act.put, List.setIfInBounds_toArray, List.set_cons_zero, List.set_cons_succ]
  refine take_val (i := 28) (d := (some 105)) (v := ?_) rfl rfl (by kernel_rfl) (by kernel_rfl) (by kernel_rfl) hPQ (by rfl) (fun wq hSw => ?_) hHeld ?_
  rotate_left 1
  · replace hSw : Below x21.heap.size x21 wq := hSw; have cQ := (BQ.out.stays hSw).cell; have cG := (BG.out.stays hSw).cell; have cK := (BK.out.stays hSw).cell; have cP := (BP.out.stays hSw).cell; have cR := (BR.out.stays hSw).cell; go_simp; try with_reducible rfl
  try simp only [Act.put, List.setIfInBounds_toArray, List.set_cons_zero, List.set_cons_succ]
  refine take_val (i := 29) (d := (some 106)) (v := ?_) rfl rfl (by kernel_rfl) (by kernel_rfl) (by kernel_rfl) hPQ (by rfl) (fun wq hSw => ?_) hHeld ?_
  rotate_left 1
  · replace hSw : Below x21.heap.size x21 wq := hSw; have cQ := (BQ.out.stays hSw).cell; have cG := (BG.out.stays hSw).cell; have cK := (BK.out.stays hSw).cell; have cP := (BP.out.stays hSw).cell; have cR := (BR.out.stays hSw).cell; go_simp; try with_reducible rfl
  try simp only [Act.put, List.setIfInBounds_toArray, List.set_cons_zero, List.set_cons_succ]
  refine take_val (i := 30) (d := (some 107)) (v := ?_) rfl rfl (by kernel_rfl) (by kernel_rfl) (by kernel_rfl) hPQ (by rfl) (fun wq hSw => ?_) hHeld ?_
  rotate_left 1
  · replace hSw : Below x21.heap.size x21 wq := hSw; have cQ := (BQ.out.stays hSw).cell; have cG := (BG.out.stays hSw).cell; have cK := (BK.out.stays hSw).cell; have cP := (BP.out.stays hSw).cell; have cR := (BR.out.stays hSw).cell; go_simp; try with_reducible rfl
  try simp only [Act.put, List.setIfInBounds_toArray, List.set_cons_zero, List.set_cons_succ]
  refine take_call (i := 31) (d := (some 108)) rfl rfl (by kernel_rfl) (by kernel_rfl) (by kernel_rfl) hPQ (by rfl) (fun wq hSw => (refSame_true (VR.out.stays hSw) (VS.out.stays hSw) rfl).mono (fun e q hq => ⟨hq.1, by first | exact hq.2 | exact hq.2.symm⟩)) (fun wq hSw => ?_) hHeld ?_
  · go_simp
  try simp only [Act.put, List.setIfInBounds_toArray, List.set_cons_zero, List.set_cons_succ]
  refine take_val (i := 32) (d := (some 109)) (v := ?_) rfl rfl (by kernel_rfl) (by kernel_rfl) (by kernel_rfl) hPQ (by rfl) (fun wq hSw => ?_) hHeld ?_
  rotate_left 1
  · replace hSw : Below x21.heap.size x21 wq := hSw; have cQ := (BQ.out.stays hSw).cell; have cG := (BG.out.stays hSw).cell; have cK := (BK.out.stays hSw).cell; have cP := (BP.out.stays hSw).cell; have cR := (BR.out.stays hSw).cell; go_simp; try with_reducible rfl
  try simp only [Act.put, List.setIfInBounds_toArray, List.set_cons_zero, List.set_cons_succ]
  refine take_val (i := 33) (d := (some 110)) (v := ?_) rfl rfl (by kernel_rfl) (by kernel_rfl) (by kernel_rfl) hPQ (by rfl) (fun wq hSw => ?_) hHeld ?_
  rotate_left 1
  · replace hSw : Below x21.heap.size x21 wq := hSw; have cQ := (BQ.out.stays hSw).cell; have cG := (BG.out.stays hSw).cell; have cK := (BK.out.stays hSw).cell; have cP := (BP.out.stays hSw).cell; have cR := (BR.out.stays hSw).cell; go_simp; try with_reducible rfl
  try simp only [Act.put, List.setIfInBounds_toArray, List.set_cons_zero, List.set_cons_succ]
  refine take_val (i := 34) (d := (some 111)) (v := ?_) rfl rfl (by kernel_rfl) (by kernel_rfl) (by kernel_rfl) hPQ (by rfl) (fun wq hSw => ?_) hHeld ?_
  rotate_left 1
  · replace hSw : Below x21.heap.size x21 wq := hSw; have cQ := (BQ.out.stays hSw).cell; have cG := (BG.out.stays hSw).cell; have cK := (BK.out.stays hSw).cell; have cP := (BP.out.stays hSw).cell; have cR := (BR.out.stays hSw).cell; go_simp; try with_reducible rfl
  try simp only [Act.put, List.setIfInBounds_toArray, List.set_cons_zero, List.set_cons_succ]
  refine take_val (i := 36) (d := (some 113)) (v := ?_) rfl rfl (by kernel_rfl) (by kernel_rfl) (by kernel_rfl) hPQ (by rfl) (fun wq hSw => ?_) hHeld ?_
  rotate_left 1
  · replace hSw : Below x21.heap.size x21 wq := hSw; have cQ := (BQ.out.stays hSw).cell; have cG := (BG.out.stays hSw).cell; have cK := (BK.out.stays hSw).cell; have cP := (BP.out.stays hSw).cell; have cR := (BR.out.stays hSw).cell; go_simp; try with_reducible rfl
  try simp only [Act.put, List.setIfInBounds_toArray, List.set_cons_zero, List.set_cons_succ]
  refine take_makeg (j := 35) (d := (some 112)) (R := fun v w' => v = .agg #[.int .i64 0, .int .i64 4, .int .i64 3, .int .i64 0, .int .i64 6, .int .i64 0, .int .u32 0, .int .u32 0, .int .u32 0, .int .u64 0, .int .u64 0, .int .u64 0, .int .u64 tx] ∧ Below wc.heap.size wc w') rfl rfl (by kernel_rfl) (by rfl) ((ask_any tx _).mono fun e q hq => ⟨_, hq.1, rfl, hq.2⟩) (by go_simp) ?_
  rintro v wd ⟨rfl, hbm⟩
  have hHeld2 : Below x21.heap.size x21 wd := below_via hHeld hbm hHeld.size
  refine ⟨hHeld2, ?_⟩
  clear hHeld hbm
  have hHeld := hHeld2
  clear hHeld2
  try simp only [Act.put, List.setIfInBounds_toArray, List.set_cons_zero, List.set_cons_succ]
  refine take_makeg (j := 37) (d := (some 114)) (R := fun v w' => v = .agg #[.int .i64 0, .int .i64 4, .int .i64 3, .int .i64 0, .int .i64 6, .int .i64 0, .int .u32 0, .int .u32 0, .int .u32 0, .int .u64 0, .int .u64 0, .int .u64 0, .int .u64 tx] ∧ Below wd.heap.size wd w') rfl rfl (by kernel_rfl) (by rfl) ((refAsk_any tx _).mono fun e q hq => ⟨_, hq.1, rfl, hq.2⟩) (by go_simp) ?_
  rintro v we ⟨rfl, hbm⟩
  have hHeld2 : Below x21.heap.size x21 we := below_via hHeld hbm hHeld.size
  refine ⟨hHeld2, ?_⟩
  clear hHeld hbm
  have hHeld := hHeld2
  clear hHeld2
  try simp only [Act.put, List.setIfInBounds_toArray, List.set_cons_zero, List.set_cons_succ]
  refine take_val (i := 38) (d := (some 115)) (v := ?_) rfl rfl (by kernel_rfl) (by kernel_rfl) (by kernel_rfl) hPQ (by rfl) (fun wq hSw => ?_) hHeld ?_
  rotate_left 1
  · replace hSw : Below x21.heap.size x21 wq := hSw; have cQ := (BQ.out.stays hSw).cell; have cG := (BG.out.stays hSw).cell; have cK := (BK.out.stays hSw).cell; have cP := (BP.out.stays hSw).cell; have cR := (BR.out.stays hSw).cell; go_simp; try with_reducible rfl
  try simp only [Act.put, List.setIfInBounds_toArray, List.set_cons_zero, List.set_cons_succ]
  refine take_val (i := 39) (d := (some 116)) (v := ?_) rfl rfl (by kernel_rfl) (by kernel_rfl) (by kernel_rfl) hPQ (by rfl) (fun wq hSw => ?_) hHeld ?_
  rotate_left 1
  · replace hSw : Below x21.heap.size x21 wq := hSw; have cQ := (BQ.out.stays hSw).cell; have cG := (BG.out.stays hSw).cell; have cK := (BK.out.stays hSw).cell; have cP := (BP.out.stays hSw).cell; have cR := (BR.out.stays hSw).cell; go_simp; try with_reducible rfl
  try simp only [Act.put, List.setIfInBounds_toArray, List.set_cons_zero, List.set_cons_succ]
  refine take_val (i := 40) (d := (some 117)) (v := ?_) rfl rfl (by kernel_rfl) (by kernel_rfl) (by kernel_rfl) hPQ (by rfl) (fun wq hSw => ?_) hHeld ?_
  rotate_left 1
  · replace hSw : Below x21.heap.size x21 wq := hSw; have cQ := (BQ.out.stays hSw).cell; have cG := (BG.out.stays hSw).cell; have cK := (BK.out.stays hSw).cell; have cP := (BP.out.stays hSw).cell; have cR := (BR.out.stays hSw).cell; go_simp; try with_reducible rfl
  try simp only [Act.put, List.setIfInBounds_toArray, List.set_cons_zero, List.set_cons_succ]
  refine take_val (i := 41) (d := (some 118)) (v := ?_) rfl rfl (by kernel_rfl) (by kernel_rfl) (by kernel_rfl) hPQ (by rfl) (fun wq hSw => ?_) hHeld ?_
  rotate_left 1
  · replace hSw : Below x21.heap.size x21 wq := hSw; have cQ := (BQ.out.stays hSw).cell; have cG := (BG.out.stays hSw).cell; have cK := (BK.out.stays hSw).cell; have cP := (BP.out.stays hSw).cell; have cR := (BR.out.stays hSw).cell; go_simp; try with_reducible rfl
  try simp only [Act.put, List.setIfInBounds_toArray, List.set_cons_zero, List.set_cons_succ]
  refine take_val (i := 42) (d := (some 119)) (v := ?_) rfl rfl (by kernel_rfl) (by kernel_rfl) (by kernel_rfl) hPQ (by rfl) (fun wq hSw => ?_) hHeld ?_
  rotate_left 1
  · replace hSw : Below x21.heap.size x21 wq := hSw; have cQ := (BQ.out.stays hSw).cell; have cG := (BG.out.stays hSw).cell; have cK := (BK.out.stays hSw).cell; have cP := (BP.out.stays hSw).cell; have cR := (BR.out.stays hSw).cell; go_simp; try with_reducible rfl
  try simp only [Act.put, List.setIfInBounds_toArray, List.set_cons_zero, List.set_cons_succ]
  refine take_val (i := 43) (d := (some 120)) (v := ?_) rfl rfl (by kernel_rfl) (by kernel_rfl) (by kernel_rfl) hPQ (by rfl) (fun wq hSw => ?_) hHeld ?_
  rotate_left 1
  · replace hSw : Below x21.heap.size x21 wq := hSw; have cQ := (BQ.out.stays hSw).cell; have cG := (BG.out.stays hSw).cell; have cK := (BK.out.stays hSw).cell; have cP := (BP.out.stays hSw).cell; have cR := (BR.out.stays hSw).cell; go_simp; try with_reducible rfl
  try simp only [Act.put, List.setIfInBounds_toArray, List.set_cons_zero, List.set_cons_succ]
  refine take_val (i := 44) (d := (some 121)) (v := ?_) rfl rfl (by kernel_rfl) (by kernel_rfl) (by kernel_rfl) hPQ (by rfl) (fun wq hSw => ?_) hHeld ?_
  rotate_left 1
  · replace hSw : Below x21.heap.size x21 wq := hSw; have cQ := (BQ.out.stays hSw).cell; have cG := (BG.out.stays hSw).cell; have cK := (BK.out.stays hSw).cell; have cP := (BP.out.stays hSw).cell; have cR := (BR.out.stays hSw).cell; go_simp; try with_reducible rfl
  try simp only [Act.put, List.setIfInBounds_toArray, List.set_cons_zero, List.set_cons_succ]
  refine take_val (i := 45) (d := (some 122)) (v := ?_) rfl rfl (by kernel_rfl) (by kernel_rfl) (by kernel_rfl) hPQ (by rfl) (fun wq hSw => ?_) hHeld ?_
  rotate_left 1
  · replace hSw : Below x21.heap.size x21 wq := hSw; have cQ := (BQ.out.stays hSw).cell; have cG := (BG.out.stays hSw).cell; have cK := (BK.out.stays hSw).cell; have cP := (BP.out.stays hSw).cell; have cR := (BR.out.stays hSw).cell; go_simp; try with_reducible rfl
  try simp only [Act.put, List.setIfInBounds_toArray, List.set_cons_zero, List.set_cons_succ]
  refine take_val (i := 46) (d := (some 123)) (v := ?_) rfl rfl (by kernel_rfl) (by kernel_rfl) (by kernel_rfl) hPQ (by rfl) (fun wq hSw => ?_) hHeld ?_
  rotate_left 1
  · replace hSw : Below x21.heap.size x21 wq := hSw; have cQ := (BQ.out.stays hSw).cell; have cG := (BG.out.stays hSw).cell; have cK := (BK.out.stays hSw).cell; have cP := (BP.out.stays hSw).cell; have cR := (BR.out.stays hSw).cell; go_simp; try with_reducible rfl
  try simp only [Act.put, List.setIfInBounds_toArray, List.set_cons_zero, List.set_cons_succ]
  refine take_val (i := 47) (d := (some 124)) (v := ?_) rfl rfl (by kernel_rfl) (by kernel_rfl) (by kernel_rfl) hPQ (by rfl) (fun wq hSw => ?_) hHeld ?_
  rotate_left 1
  · replace hSw : Below x21.heap.size x21 wq := hSw; have cQ := (BQ.out.stays hSw).cell; have cG := (BG.out.stays hSw).cell; have cK := (BK.out.stays hSw).cell; have cP := (BP.out.stays hSw).cell; have cR := (BR.out.stays hSw).cell; go_simp; try with_reducible rfl
  try simp only [Act.put, List.setIfInBounds_toArray, List.set_cons_zero, List.set_cons_succ]
  refine take_val (i := 48) (d := (some 125)) (v := ?_) rfl rfl (by kernel_rfl) (by kernel_rfl) (by kernel_rfl) hPQ (by rfl) (fun wq hSw => ?_) hHeld ?_
  rotate_left 1
  · replace hSw : Below x21.heap.size x21 wq := hSw; have cQ := (BQ.out.stays hSw).cell; have cG := (BG.out.stays hSw).cell; have cK := (BK.out.stays hSw).cell; have cP := (BP.out.stays hSw).cell; have cR := (BR.out.stays hSw).cell; go_simp; try with_reducible rfl
  try simp only [Act.put, List.setIfInBounds_toArray, List.set_cons_zero, List.set_cons_succ]
  refine take_val (i := 49) (d := (some 126)) (v := ?_) rfl rfl (by kernel_rfl) (by kernel_rfl) (by kernel_rfl) hPQ (by rfl) (fun wq hSw => ?_) hHeld ?_
  rotate_left 1
  · replace hSw : Below x21.heap.size x21 wq := hSw; have cQ := (BQ.out.stays hSw).cell; have cG := (BG.out.stays hSw).cell; have cK := (BK.out.stays hSw).cell; have cP := (BP.out.stays hSw).cell; have cR := (BR.out.stays hSw).cell; go_simp; try with_reducible rfl
  try simp only [Act.put, List.setIfInBounds_toArray, List.set_cons_zero, List.set_cons_succ]
  refine take_val (i := 50) (d := (some 10)) (v := ?_) rfl rfl (by kernel_rfl) (by kernel_rfl) (by kernel_rfl) hPQ (by rfl) (fun wq hSw => ?_) hHeld ?_
  rotate_left 1
  · replace hSw : Below x21.heap.size x21 wq := hSw; have cQ := (BQ.out.stays hSw).cell; have cG := (BG.out.stays hSw).cell; have cK := (BK.out.stays hSw).cell; have cP := (BP.out.stays hSw).cell; have cR := (BR.out.stays hSw).cell; go_simp; try with_reducible rfl
  try simp only [Act.put, List.setIfInBounds_toArray, List.set_cons_zero, List.set_cons_succ]
  refine wpAnyH_done (by kernel_rfl) ?_ _
  have RF := Lib.hid (R22.out.trans (hHeld.mono hz_x21))
  clear hHeld
  go_wp2
  go_ret
  exact ⟨rfl, RF.out⟩
theorem packetActs_walk (a0 a1 a2 a3 a4 a5 a6 a7 a8 a9 a10 a11 a12 : Int) (w6 : (Lit.int .u32 a6).wf = true) (w7 : (Lit.int .u32 a7).wf = true) (w8 : (Lit.int .u32 a8).wf = true) (w9 : (Lit.int .u64 a9).wf = true) (w10 : (Lit.int .u64 a10).wf = true) (w11 : (Lit.int .u64 a11).wf = true) (w12 : (Lit.int .u64 a12).wf = true) (st rc tx : Int) (wr : (Lit.int .u64 rc).wf = true) (wt : (Lit.int .u64 tx).wf = true) (A : Option Addr) (n c : Nat) (l : List UInt8) (w : World) (hv : Bytes w A n c l) :
    Calls Try.prog 12 #[.agg #[.int .i64 a0, .int .i64 a1, .int .i64 a2, .int .i64 a3, .int .i64 a4, .int .i64 a5, .int .u32 a6, .int .u32 a7, .int .u32 a8, .int .u64 a9, .int .u64 a10, .int .u64 a11, .int .u64 a12], .slice A n c, .int .i64 st, .int .u64 rc, .int .u64 tx] w fun e w' => e = .returned (.bool true) ∧ Below w.heap.size w w' := by
  have b6 := bounds_u32 w6
  have b7 := bounds_u32 w7
  have b8 := bounds_u32 w8
  have b9 := bounds_u64 w9
  have b10 := bounds_u64 w10
  have b11 := bounds_u64 w11
  have b12 := bounds_u64 w12
  have br := bounds_u64 wr
  have bt := bounds_u64 wt
  obtain ⟨h6, rfl⟩ := Int.eq_ofNat_of_zero_le b6.1
  obtain ⟨h7, rfl⟩ := Int.eq_ofNat_of_zero_le b7.1
  obtain ⟨h8, rfl⟩ := Int.eq_ofNat_of_zero_le b8.1
  obtain ⟨h9, rfl⟩ := Int.eq_ofNat_of_zero_le b9.1
  obtain ⟨h10, rfl⟩ := Int.eq_ofNat_of_zero_le b10.1
  obtain ⟨h11, rfl⟩ := Int.eq_ofNat_of_zero_le b11.1
  obtain ⟨h12, rfl⟩ := Int.eq_ofNat_of_zero_le b12.1
  obtain ⟨r, rfl⟩ := Int.eq_ofNat_of_zero_le br.1
  obtain ⟨x, rfl⟩ := Int.eq_ofNat_of_zero_le bt.1
  by_cases g1 : n ≤ 200
  · exact pacts_near1 a0 a1 a2 a3 a4 a5 h6 h7 h8 h9 h10 h11 h12 (by omega) (by omega) (by omega) (by omega) (by omega) (by omega) (by omega) st r x A n c l w hv g1
  by_cases g2 : n ≤ 1280
  · exact pacts_far1 a0 a1 a2 a3 a4 a5 h6 h7 h8 h9 h10 h11 h12 (by omega) (by omega) (by omega) (by omega) (by omega) (by omega) (by omega) st r x A n c l w (by omega) g2
  by_cases g3 : n ≤ 1500
  · exact pacts_near2 a0 a1 a2 a3 a4 a5 h6 h7 h8 h9 h10 h11 h12 (by omega) (by omega) (by omega) (by omega) (by omega) (by omega) (by omega) st r x A n c l w hv (by omega) g3
  · exact pacts_far2 a0 a1 a2 a3 a4 a5 h6 h7 h8 h9 h10 h11 h12 (by omega) (by omega) (by omega) (by omega) (by omega) (by omega) (by omega) st r x A n c l w (by omega)
end Go.Proofs.Ytnpfndlmbaafaaa
