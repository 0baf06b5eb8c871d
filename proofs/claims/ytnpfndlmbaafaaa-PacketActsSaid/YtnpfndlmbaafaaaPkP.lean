/- sectimeref16.Encode. -/
import Derived.Test.YtnpfndlmbaafaaaPkC
import Derived.Test.YtnpfndlmbaafaaaPkN
import Derived.Test.YtnpfndlmbaafaaaRefJoin
import Derived.Test.YtnpfndlmbaafaaaBlks
import Derived.Deep.RegionHeld3
import Derived.IntWalk
namespace Go.Proofs.Ytnpfndlmbaafaaa
open Go.RowKit

theorem lists_made8 {w : World} {E : TypeId} {A0 : Option Addr} {n0 c0 : Nat} {l0 : List UInt8} (h0 : Bytes w A0 n0 c0 l0) {A1 : Option Addr} {n1 c1 : Nat} {l1 : List UInt8} (h1 : Bytes w A1 n1 c1 l1) {A2 : Option Addr} {n2 c2 : Nat} {l2 : List UInt8} (h2 : Bytes w A2 n2 c2 l2) {A3 : Option Addr} {n3 c3 : Nat} {l3 : List UInt8} (h3 : Bytes w A3 n3 c3 l3) {A4 : Option Addr} {n4 c4 : Nat} {l4 : List UInt8} (h4 : Bytes w A4 n4 c4 l4) {A5 : Option Addr} {n5 c5 : Nat} {l5 : List UInt8} (h5 : Bytes w A5 n5 c5 l5) {A6 : Option Addr} {n6 c6 : Nat} {l6 : List UInt8} (h6 : Bytes w A6 n6 c6 l6) {A7 : Option Addr} {n7 c7 : Nat} {l7 : List UInt8} (h7 : Bytes w A7 n7 c7 l7) :
    Lists (w.alloc (.cells #[.slice A0 n0 c0, .slice A1 n1 c1, .slice A2 n2 c2, .slice A3 n3 c3, .slice A4 n4 c4, .slice A5 n5 c5, .slice A6 n6 c6, .slice A7 n7 c7] E)) (some ⟨w.heap.size, 0, none⟩) 8 8 [l0, l1, l2, l3, l4, l5, l6, l7] :=
  lists_made (vs := [.slice A0 n0 c0, .slice A1 n1 c1, .slice A2 n2 c2, .slice A3 n3 c3, .slice A4 n4 c4, .slice A5 n5 c5, .slice A6 n6 c6, .slice A7 n7 c7]) rfl (by simp [maxLen]) fun i l hi => by
    match i, hi with
    | 0, hi => simp at hi; subst hi; exact ⟨_, _, _, rfl, h0⟩
    | 1, hi => simp at hi; subst hi; exact ⟨_, _, _, rfl, h1⟩
    | 2, hi => simp at hi; subst hi; exact ⟨_, _, _, rfl, h2⟩
    | 3, hi => simp at hi; subst hi; exact ⟨_, _, _, rfl, h3⟩
    | 4, hi => simp at hi; subst hi; exact ⟨_, _, _, rfl, h4⟩
    | 5, hi => simp at hi; subst hi; exact ⟨_, _, _, rfl, h5⟩
    | 6, hi => simp at hi; subst hi; exact ⟨_, _, _, rfl, h6⟩
    | 7, hi => simp at hi; subst hi; exact ⟨_, _, _, rfl, h7⟩
theorem hd_made {l v m s : Nat} {p q : Int} (h : HdOk l v m s p q) {W w' : World} {E : TypeId} (hb : Below (W.alloc (.cells #[.int .u8 (l * 64 + v * 8 + m), .int .u8 s, .int .u8 (p % 256), .int .u8 (q % 256)] E)).heap.size (W.alloc (.cells #[.int .u8 (l * 64 + v * 8 + m), .int .u8 s, .int .u8 (p % 256), .int .u8 (q % 256)] E)) w') : Bytes w' (some ⟨W.heap.size, 0, none⟩) 4 4 (hdHead l v m s p q) := by
  obtain ⟨⟨a0, b0⟩, ⟨a1, b1⟩, ⟨a2, b2⟩, ⟨a3, b3⟩, ⟨a4, b4⟩, ⟨a5, b5⟩⟩ := h
  have hd := hdHead_cells l v m s p q (by omega) (by omega) (by omega) (by omega)
  have := Bytes.made (w := W) (l := hdHead l v m s p q) (E := E) (by simp [hdHead, maxLen])
  rw [hd] at this
  exact Bytes.stays this hb
theorem hd_madeD {l v m s : Nat} {p q : Int} (h : HdOk l v m s p q) {W w' : World} {E : TypeId} (hb : Below (W.alloc (.cells #[.int .u8 (l * 64 + v * 8 + m), .int .u8 s, .int .u8 (p % 256), .int .u8 (q % 256)] E)).drew.heap.size (W.alloc (.cells #[.int .u8 (l * 64 + v * 8 + m), .int .u8 s, .int .u8 (p % 256), .int .u8 (q % 256)] E)).drew w') : Bytes w' (some ⟨W.heap.size, 0, none⟩) 4 4 (hdHead l v m s p q) :=
  Bytes.stays (hd_made h (Below.refl _ _).drew) hb
theorem hd_made0 {l v m s : Nat} {p q : Int} (h : HdOk l v m s p q) {W : World} {E : TypeId} : Bytes (W.alloc (.cells #[.int .u8 (l * 64 + v * 8 + m), .int .u8 s, .int .u8 (p % 256), .int .u8 (q % 256)] E)) (some ⟨W.heap.size, 0, none⟩) 4 4 (hdHead l v m s p q) := hd_made h (Below.refl _ _)
theorem join_late {l v m s : Nat} {p q : Int} (h : HdOk l v m s p q) {W : World} {E E2 : TypeId} {A6 : Option Addr} {c6 : Nat} {l6 : List UInt8} {A7 : Option Addr} {c7 : Nat} {l7 : List UInt8} {A8 : Option Addr} {c8 : Nat} {l8 : List UInt8} {A9 : Option Addr} {c9 : Nat} {l9 : List UInt8} {A10 : Option Addr} {c10 : Nat} {l10 : List UInt8} {A11 : Option Addr} {c11 : Nat} {l11 : List UInt8} {A12 : Option Addr} {c12 : Nat} {l12 : List UInt8} (hp6 : Bytes W A6 4 c6 l6) (hp7 : Bytes W A7 4 c7 l7) (hp8 : Bytes W A8 4 c8 l8) (hp9 : Bytes W A9 8 c9 l9) (hp10 : Bytes W A10 8 c10 l10) (hp11 : Bytes W A11 8 c11 l11) (hp12 : Bytes W A12 8 c12 l12) :
    Lists ((W.alloc (.cells #[.int .u8 (l * 64 + v * 8 + m), .int .u8 s, .int .u8 (p % 256), .int .u8 (q % 256)] E)).alloc (.cells #[.slice (some ⟨W.heap.size, 0, none⟩) 4 4, .slice A6 4 c6, .slice A7 4 c7, .slice A8 4 c8, .slice A9 8 c9, .slice A10 8 c10, .slice A11 8 c11, .slice A12 8 c12] E2)) (some ⟨W.heap.size + 1, 0, none⟩) 8 8 [hdHead l v m s p q, l6, l7, l8, l9, l10, l11, l12] := by
  have := lists_made8 (E := E2) (hd_made0 (E := E) h) (hp6.stays (below_alloc1 _ _)) (hp7.stays (below_alloc1 _ _)) (hp8.stays (below_alloc1 _ _)) (hp9.stays (below_alloc1 _ _)) (hp10.stays (below_alloc1 _ _)) (hp11.stays (below_alloc1 _ _)) (hp12.stays (below_alloc1 _ _))
  rwa [show (W.alloc (.cells #[.int .u8 (l * 64 + v * 8 + m), .int .u8 s, .int .u8 (p % 256), .int .u8 (q % 256)] E)).heap.size = W.heap.size + 1 by simp] at this
theorem refPut4 (v : Nat) (w : World) : Calls Try.prog 59 #[.int .u64 v, .int .i64 4] w fun e w' => ∃ A c, e = .returned (.slice A 4 c) ∧ Bytes w' A 4 c (putL v 4) ∧ Below w.heap.size w w' := refPut_reads v 4 (by decide) w
theorem refPut8 (v : Nat) (w : World) : Calls Try.prog 59 #[.int .u64 v, .int .i64 8] w fun e w' => ∃ A c, e = .returned (.slice A 8 c) ∧ Bytes w' A 8 c (putL v 8) ∧ Below w.heap.size w w' := refPut_reads v 8 (by decide) w
theorem rd_join8 {B T : Nat} {w : World} {A : Option Addr} {c l v m s h6 h7 h8 h9 h10 h11 h12 : Nat} {p q : Int} (h : w.ownsRow B T 1 (.slice A 48 c) 48 ([hdHead l v m s p q, putL h6 4, putL h7 4, putL h8 4, putL h9 8, putL h10 8, putL h11 8, putL h12 8].flatten.map byteV)) : Bytes w A 48 c (hdBytes l v m s p q h6 h7 h8 h9 h10 h11 h12) := by
  have := own_rd h
  simpa [Bytes, hdBytes] using this
set_option maxRecDepth 100000 in
set_option maxHeartbeats 4000000 in
theorem refEncode_bad (h0 h1 h2 h3 h4 h5 : Int) (h6 h7 h8 h9 h10 h11 h12 : Nat) (w : World) (h : ¬ HdOk h0 h1 h2 h3 h4 h5) :
    Calls Try.prog 37 #[.agg #[.int .i64 h0, .int .i64 h1, .int .i64 h2, .int .i64 h3, .int .i64 h4, .int .i64 h5, .int .u32 h6, .int .u32 h7, .int .u32 h8, .int .u64 h9, .int .u64 h10, .int .u64 h11, .int .u64 h12]] w fun e w' => e = .returned (.tuple #[.slice none 0 0, .int .i64 4]) ∧ Below w.heap.size w w' := by
  have H := Lib.hid h
  clear h
  go_enter Try.func37, Try.ntmps37
  go_wp2_with fail
  refine (refValid_bad _ _ _ _ _ _ _ _ _ _ _ _ _ _ H.out).mono ?_
  rintro e w1 ⟨rfl, hb1⟩
  have R0 : Below w.heap.size w w1 := below_via (by go_grown) hb1 (by simp)
  clear hb1
  go_wp2
  go_returns
  exact ⟨rfl, by go_grown⟩
set_option maxRecDepth 100000 in
set_option maxHeartbeats 4000000 in
theorem refEncode_ok (l v m s : Nat) (p q : Int) (h6 h7 h8 h9 h10 h11 h12 : Nat) (w : World) (h : HdOk l v m s p q) (z6 : h6 < 4294967296) (z7 : h7 < 4294967296) (z8 : h8 < 4294967296) (z9 : h9 < 18446744073709551616) (z10 : h10 < 18446744073709551616) (z11 : h11 < 18446744073709551616) (z12 : h12 < 18446744073709551616) :
    Calls Try.prog 37 #[.agg #[.int .i64 l, .int .i64 v, .int .i64 m, .int .i64 s, .int .i64 p, .int .i64 q, .int .u32 h6, .int .u32 h7, .int .u32 h8, .int .u64 h9, .int .u64 h10, .int .u64 h11, .int .u64 h12]] w fun e w' => ∃ A c, e = .returned (.tuple #[.slice A 48 c, .int .i64 0]) ∧ Bytes w' A 48 c (hdBytes l v m s p q h6 h7 h8 h9 h10 h11 h12) ∧ Below w.heap.size w w' := by
  have HOK := Lib.hid h
  obtain ⟨⟨a0, b0⟩, ⟨a1, b1⟩, ⟨a2, b2⟩, ⟨a3, b3⟩, ⟨a4, b4⟩, ⟨a5, b5⟩⟩ := h
  have hbits := first_bits l (by omega) v (by omega) m (by omega)
  have cst : ((l * 64 + v * 8 + m : Nat) : Int) = (l : Int) * 64 + (v : Int) * 8 + (m : Int) := by omega
  rw [cst] at hbits
  clear cst
  have x1 : IntKind.i64.wrap ((l : Int) * 64) = (l : Int) * 64 := IntWalk.i64_in _ (by omega)
  have x2 : IntKind.i64.wrap ((v : Int) * 8) = (v : Int) * 8 := IntWalk.i64_in _ (by omega)
  have x3 : IntKind.u8.wrap ((l : Int) * 64 + (v : Int) * 8 + (m : Int)) = (l : Int) * 64 + (v : Int) * 8 + (m : Int) := IntWalk.u8_in _ (by omega)
  have x4 : IntKind.u8.wrap (s : Int) = (s : Int) := IntWalk.u8_in _ (by omega)
  have x5 : IntKind.u8.wrap p = p % 256 := by simp [IntKind.wrap, IntKind.bits, IntKind.signed]
  have x6 : IntKind.u8.wrap q = q % 256 := by simp [IntKind.wrap, IntKind.bits, IntKind.signed]
  have y6 : IntKind.u64.wrap (h6 : Int) = (h6 : Int) := IntWalk.u64_in _ (by omega)
  have y7 : IntKind.u64.wrap (h7 : Int) = (h7 : Int) := IntWalk.u64_in _ (by omega)
  have y8 : IntKind.u64.wrap (h8 : Int) = (h8 : Int) := IntWalk.u64_in _ (by omega)
  clear a0 b0 a1 b1 a2 b2 a3 b3 a4 b4 a5 b5
  go_enter Try.func37, Try.ntmps37
  go_upto_region 1 with fail
  obtain ⟨x1, h_, ex1, eh_⟩ : ∃ x1 h_, x1 = w.alloc (.cells #[.int .i64 l, .int .i64 v, .int .i64 m, .int .i64 s, .int .i64 p, .int .i64 q, .int .u32 h6, .int .u32 h7, .int .u32 h8, .int .u64 h9, .int .u64 h10, .int .u64 h11, .int .u64 h12] 25) ∧ h_ = w.heap.size := ⟨_, _, rfl, rfl⟩
  rw [← ex1, ← eh_]
  have hbx : Below w.heap.size w x1 := by rw [ex1]; exact below_alloc1 _ _ 
  have g_H : w.heap.size ≤ h_ := by rw [eh_]; exact Nat.le_refl _
  have BH := Lib.hid (show Blk x1 h_ 25 #[.int .i64 l, .int .i64 v, .int .i64 m, .int .i64 s, .int .i64 p, .int .i64 q, .int .u32 h6, .int .u32 h7, .int .u32 h8, .int .u64 h9, .int .u64 h10, .int .u64 h11, .int .u64 h12] by rw [ex1, eh_]; exact blk_new1_0 _ _ _ )
  have R2 := Lib.hid hbx
  have hz_x1 := R2.out.size
  clear hbx ex1 eh_
  have kH_0 : x1.cell? ⟨h_, 0, none⟩ = some (.int .i64 l) := BH.out.cell 0
  have kH_1 : x1.cell? ⟨h_, 1, none⟩ = some (.int .i64 v) := BH.out.cell 1
  have kH_2 : x1.cell? ⟨h_, 2, none⟩ = some (.int .i64 m) := BH.out.cell 2
  have kH_3 : x1.cell? ⟨h_, 3, none⟩ = some (.int .i64 s) := BH.out.cell 3
  have kH_4 : x1.cell? ⟨h_, 4, none⟩ = some (.int .i64 p) := BH.out.cell 4
  have kH_5 : x1.cell? ⟨h_, 5, none⟩ = some (.int .i64 q) := BH.out.cell 5
  have kH_6 : x1.cell? ⟨h_, 6, none⟩ = some (.int .u32 h6) := BH.out.cell 6
  have kH_7 : x1.cell? ⟨h_, 7, none⟩ = some (.int .u32 h7) := BH.out.cell 7
  have kH_8 : x1.cell? ⟨h_, 8, none⟩ = some (.int .u32 h8) := BH.out.cell 8
  have kH_9 : x1.cell? ⟨h_, 9, none⟩ = some (.int .u64 h9) := BH.out.cell 9
  have kH_10 : x1.cell? ⟨h_, 10, none⟩ = some (.int .u64 h10) := BH.out.cell 10
  have kH_11 : x1.cell? ⟨h_, 11, none⟩ = some (.int .u64 h11) := BH.out.cell 11
  have kH_12 : x1.cell? ⟨h_, 12, none⟩ = some (.int .u64 h12) := BH.out.cell 12
  go_wp2_with fail
  refine (refValid_ok _ _ _ _ _ _ _ _ _ _ _ _ _ _ HOK.out).mono ?_
  rintro e y3 ⟨rfl, hb⟩
  clear kH_0 kH_1 kH_2 kH_3 kH_4 kH_5 kH_6 kH_7 kH_8 kH_9 kH_10 kH_11 kH_12
  have hbx : Below x1.heap.size x1 y3 := below_via (by go_grown) hb (by first | (simp; done) | (simp; omega))
  have BH := Lib.hid (BH.out.stays hbx)
  have R4 := Lib.hid (R2.out.trans (hbx.mono hz_x1))
  have hz_y3 := R4.out.size
  clear hb hbx  R2 hz_x1
  have kH_0 : y3.cell? ⟨h_, 0, none⟩ = some (.int .i64 l) := BH.out.cell 0
  have kH_1 : y3.cell? ⟨h_, 1, none⟩ = some (.int .i64 v) := BH.out.cell 1
  have kH_2 : y3.cell? ⟨h_, 2, none⟩ = some (.int .i64 m) := BH.out.cell 2
  have kH_3 : y3.cell? ⟨h_, 3, none⟩ = some (.int .i64 s) := BH.out.cell 3
  have kH_4 : y3.cell? ⟨h_, 4, none⟩ = some (.int .i64 p) := BH.out.cell 4
  have kH_5 : y3.cell? ⟨h_, 5, none⟩ = some (.int .i64 q) := BH.out.cell 5
  have kH_6 : y3.cell? ⟨h_, 6, none⟩ = some (.int .u32 h6) := BH.out.cell 6
  have kH_7 : y3.cell? ⟨h_, 7, none⟩ = some (.int .u32 h7) := BH.out.cell 7
  have kH_8 : y3.cell? ⟨h_, 8, none⟩ = some (.int .u32 h8) := BH.out.cell 8
  have kH_9 : y3.cell? ⟨h_, 9, none⟩ = some (.int .u64 h9) := BH.out.cell 9
  have kH_10 : y3.cell? ⟨h_, 10, none⟩ = some (.int .u64 h10) := BH.out.cell 10
  have kH_11 : y3.cell? ⟨h_, 11, none⟩ = some (.int .u64 h11) := BH.out.cell 11
  have kH_12 : y3.cell? ⟨h_, 12, none⟩ = some (.int .u64 h12) := BH.out.cell 12
  go_upto_region 4 with fail
  clear z6 z7 z8 z9 z10 z11 z12
  go_region_held3 (fun w' => w'.cell? ⟨h_, 0, none⟩ = some (.int .i64 l) ∧ w'.cell? ⟨h_, 1, none⟩ = some (.int .i64 v) ∧ w'.cell? ⟨h_, 2, none⟩ = some (.int .i64 m) ∧ w'.cell? ⟨h_, 3, none⟩ = some (.int .i64 s) ∧ w'.cell? ⟨h_, 4, none⟩ = some (.int .i64 p) ∧ w'.cell? ⟨h_, 5, none⟩ = some (.int .i64 q) ∧ w'.cell? ⟨h_, 6, none⟩ = some (.int .u32 h6) ∧ w'.cell? ⟨h_, 7, none⟩ = some (.int .u32 h7) ∧ w'.cell? ⟨h_, 8, none⟩ = some (.int .u32 h8) ∧ w'.cell? ⟨h_, 9, none⟩ = some (.int .u64 h9) ∧ w'.cell? ⟨h_, 10, none⟩ = some (.int .u64 h10) ∧ w'.cell? ⟨h_, 11, none⟩ = some (.int .u64 h11) ∧ w'.cell? ⟨h_, 12, none⟩ = some (.int .u64 h12)) (go_keep)
    (first
      | (go_at_call 59; (with_reducible refine (refPut4 h6 _).mono ?_); rintro e wp6 ⟨A6, c6, rfl, hp6, hb⟩; have hbx : Below y3.heap.size y3 wp6 := below_via (by go_grown) hb (by first | (simp; done) | (simp; omega)); (first | (have hd0 := Bytes.stays hd0 hbx) | (have hd0 := hd_made HOK.out hb) | (have hd0 := hd_madeD HOK.out hb) | skip); have q_wp6 : Below y3.heap.size y3 wp6 := hbx; have cwp6_0 : wp6.cell? ⟨h_, 0, none⟩ = some (.int .i64 l) := (BH.out.stays q_wp6).cell 0; have cwp6_1 : wp6.cell? ⟨h_, 1, none⟩ = some (.int .i64 v) := (BH.out.stays q_wp6).cell 1; have cwp6_2 : wp6.cell? ⟨h_, 2, none⟩ = some (.int .i64 m) := (BH.out.stays q_wp6).cell 2; have cwp6_3 : wp6.cell? ⟨h_, 3, none⟩ = some (.int .i64 s) := (BH.out.stays q_wp6).cell 3; have cwp6_4 : wp6.cell? ⟨h_, 4, none⟩ = some (.int .i64 p) := (BH.out.stays q_wp6).cell 4; have cwp6_5 : wp6.cell? ⟨h_, 5, none⟩ = some (.int .i64 q) := (BH.out.stays q_wp6).cell 5; have cwp6_6 : wp6.cell? ⟨h_, 6, none⟩ = some (.int .u32 h6) := (BH.out.stays q_wp6).cell 6; have cwp6_7 : wp6.cell? ⟨h_, 7, none⟩ = some (.int .u32 h7) := (BH.out.stays q_wp6).cell 7; have cwp6_8 : wp6.cell? ⟨h_, 8, none⟩ = some (.int .u32 h8) := (BH.out.stays q_wp6).cell 8; have cwp6_9 : wp6.cell? ⟨h_, 9, none⟩ = some (.int .u64 h9) := (BH.out.stays q_wp6).cell 9; have cwp6_10 : wp6.cell? ⟨h_, 10, none⟩ = some (.int .u64 h10) := (BH.out.stays q_wp6).cell 10; have cwp6_11 : wp6.cell? ⟨h_, 11, none⟩ = some (.int .u64 h11) := (BH.out.stays q_wp6).cell 11; have cwp6_12 : wp6.cell? ⟨h_, 12, none⟩ = some (.int .u64 h12) := (BH.out.stays q_wp6).cell 12; clear hb hbx)
      | (go_at_call 59; (with_reducible refine (refPut4 h7 _).mono ?_); rintro e wp7 ⟨A7, c7, rfl, hp7, hb⟩; have hbx : Below wp6.heap.size wp6 wp7 := below_via (by go_grown) hb (by first | (simp; done) | (simp; omega)); have hp6 := hp6.stays hbx; (first | (have hd0 := Bytes.stays hd0 hbx) | (have hd0 := hd_made HOK.out hb) | (have hd0 := hd_madeD HOK.out hb) | skip); have q_wp7 : Below y3.heap.size y3 wp7 := q_wp6.trans (hbx.mono q_wp6.size); have cwp7_0 : wp7.cell? ⟨h_, 0, none⟩ = some (.int .i64 l) := (BH.out.stays q_wp7).cell 0; have cwp7_1 : wp7.cell? ⟨h_, 1, none⟩ = some (.int .i64 v) := (BH.out.stays q_wp7).cell 1; have cwp7_2 : wp7.cell? ⟨h_, 2, none⟩ = some (.int .i64 m) := (BH.out.stays q_wp7).cell 2; have cwp7_3 : wp7.cell? ⟨h_, 3, none⟩ = some (.int .i64 s) := (BH.out.stays q_wp7).cell 3; have cwp7_4 : wp7.cell? ⟨h_, 4, none⟩ = some (.int .i64 p) := (BH.out.stays q_wp7).cell 4; have cwp7_5 : wp7.cell? ⟨h_, 5, none⟩ = some (.int .i64 q) := (BH.out.stays q_wp7).cell 5; have cwp7_6 : wp7.cell? ⟨h_, 6, none⟩ = some (.int .u32 h6) := (BH.out.stays q_wp7).cell 6; have cwp7_7 : wp7.cell? ⟨h_, 7, none⟩ = some (.int .u32 h7) := (BH.out.stays q_wp7).cell 7; have cwp7_8 : wp7.cell? ⟨h_, 8, none⟩ = some (.int .u32 h8) := (BH.out.stays q_wp7).cell 8; have cwp7_9 : wp7.cell? ⟨h_, 9, none⟩ = some (.int .u64 h9) := (BH.out.stays q_wp7).cell 9; have cwp7_10 : wp7.cell? ⟨h_, 10, none⟩ = some (.int .u64 h10) := (BH.out.stays q_wp7).cell 10; have cwp7_11 : wp7.cell? ⟨h_, 11, none⟩ = some (.int .u64 h11) := (BH.out.stays q_wp7).cell 11; have cwp7_12 : wp7.cell? ⟨h_, 12, none⟩ = some (.int .u64 h12) := (BH.out.stays q_wp7).cell 12; clear hb hbx)
      | (go_at_call 59; (with_reducible refine (refPut4 h8 _).mono ?_); rintro e wp8 ⟨A8, c8, rfl, hp8, hb⟩; have hbx : Below wp7.heap.size wp7 wp8 := below_via (by go_grown) hb (by first | (simp; done) | (simp; omega)); have hp6 := hp6.stays hbx; have hp7 := hp7.stays hbx; (first | (have hd0 := Bytes.stays hd0 hbx) | (have hd0 := hd_made HOK.out hb) | (have hd0 := hd_madeD HOK.out hb) | skip); have q_wp8 : Below y3.heap.size y3 wp8 := q_wp7.trans (hbx.mono q_wp7.size); have cwp8_0 : wp8.cell? ⟨h_, 0, none⟩ = some (.int .i64 l) := (BH.out.stays q_wp8).cell 0; have cwp8_1 : wp8.cell? ⟨h_, 1, none⟩ = some (.int .i64 v) := (BH.out.stays q_wp8).cell 1; have cwp8_2 : wp8.cell? ⟨h_, 2, none⟩ = some (.int .i64 m) := (BH.out.stays q_wp8).cell 2; have cwp8_3 : wp8.cell? ⟨h_, 3, none⟩ = some (.int .i64 s) := (BH.out.stays q_wp8).cell 3; have cwp8_4 : wp8.cell? ⟨h_, 4, none⟩ = some (.int .i64 p) := (BH.out.stays q_wp8).cell 4; have cwp8_5 : wp8.cell? ⟨h_, 5, none⟩ = some (.int .i64 q) := (BH.out.stays q_wp8).cell 5; have cwp8_6 : wp8.cell? ⟨h_, 6, none⟩ = some (.int .u32 h6) := (BH.out.stays q_wp8).cell 6; have cwp8_7 : wp8.cell? ⟨h_, 7, none⟩ = some (.int .u32 h7) := (BH.out.stays q_wp8).cell 7; have cwp8_8 : wp8.cell? ⟨h_, 8, none⟩ = some (.int .u32 h8) := (BH.out.stays q_wp8).cell 8; have cwp8_9 : wp8.cell? ⟨h_, 9, none⟩ = some (.int .u64 h9) := (BH.out.stays q_wp8).cell 9; have cwp8_10 : wp8.cell? ⟨h_, 10, none⟩ = some (.int .u64 h10) := (BH.out.stays q_wp8).cell 10; have cwp8_11 : wp8.cell? ⟨h_, 11, none⟩ = some (.int .u64 h11) := (BH.out.stays q_wp8).cell 11; have cwp8_12 : wp8.cell? ⟨h_, 12, none⟩ = some (.int .u64 h12) := (BH.out.stays q_wp8).cell 12; clear hb hbx)
      | (go_at_call 59; (with_reducible refine (refPut8 h9 _).mono ?_); rintro e wp9 ⟨A9, c9, rfl, hp9, hb⟩; have hbx : Below wp8.heap.size wp8 wp9 := below_via (by go_grown) hb (by first | (simp; done) | (simp; omega)); have hp6 := hp6.stays hbx; have hp7 := hp7.stays hbx; have hp8 := hp8.stays hbx; (first | (have hd0 := Bytes.stays hd0 hbx) | (have hd0 := hd_made HOK.out hb) | (have hd0 := hd_madeD HOK.out hb) | skip); have q_wp9 : Below y3.heap.size y3 wp9 := q_wp8.trans (hbx.mono q_wp8.size); have cwp9_0 : wp9.cell? ⟨h_, 0, none⟩ = some (.int .i64 l) := (BH.out.stays q_wp9).cell 0; have cwp9_1 : wp9.cell? ⟨h_, 1, none⟩ = some (.int .i64 v) := (BH.out.stays q_wp9).cell 1; have cwp9_2 : wp9.cell? ⟨h_, 2, none⟩ = some (.int .i64 m) := (BH.out.stays q_wp9).cell 2; have cwp9_3 : wp9.cell? ⟨h_, 3, none⟩ = some (.int .i64 s) := (BH.out.stays q_wp9).cell 3; have cwp9_4 : wp9.cell? ⟨h_, 4, none⟩ = some (.int .i64 p) := (BH.out.stays q_wp9).cell 4; have cwp9_5 : wp9.cell? ⟨h_, 5, none⟩ = some (.int .i64 q) := (BH.out.stays q_wp9).cell 5; have cwp9_6 : wp9.cell? ⟨h_, 6, none⟩ = some (.int .u32 h6) := (BH.out.stays q_wp9).cell 6; have cwp9_7 : wp9.cell? ⟨h_, 7, none⟩ = some (.int .u32 h7) := (BH.out.stays q_wp9).cell 7; have cwp9_8 : wp9.cell? ⟨h_, 8, none⟩ = some (.int .u32 h8) := (BH.out.stays q_wp9).cell 8; have cwp9_9 : wp9.cell? ⟨h_, 9, none⟩ = some (.int .u64 h9) := (BH.out.stays q_wp9).cell 9; have cwp9_10 : wp9.cell? ⟨h_, 10, none⟩ = some (.int .u64 h10) := (BH.out.stays q_wp9).cell 10; have cwp9_11 : wp9.cell? ⟨h_, 11, none⟩ = some (.int .u64 h11) := (BH.out.stays q_wp9).cell 11; have cwp9_12 : wp9.cell? ⟨h_, 12, none⟩ = some (.int .u64 h12) := (BH.out.stays q_wp9).cell 12; clear hb hbx)
      | (go_at_call 59; (with_reducible refine (refPut8 h10 _).mono ?_); rintro e wp10 ⟨A10, c10, rfl, hp10, hb⟩; have hbx : Below wp9.heap.size wp9 wp10 := below_via (by go_grown) hb (by first | (simp; done) | (simp; omega)); have hp6 := hp6.stays hbx; have hp7 := hp7.stays hbx; have hp8 := hp8.stays hbx; have hp9 := hp9.stays hbx; (first | (have hd0 := Bytes.stays hd0 hbx) | (have hd0 := hd_made HOK.out hb) | (have hd0 := hd_madeD HOK.out hb) | skip); have q_wp10 : Below y3.heap.size y3 wp10 := q_wp9.trans (hbx.mono q_wp9.size); have cwp10_0 : wp10.cell? ⟨h_, 0, none⟩ = some (.int .i64 l) := (BH.out.stays q_wp10).cell 0; have cwp10_1 : wp10.cell? ⟨h_, 1, none⟩ = some (.int .i64 v) := (BH.out.stays q_wp10).cell 1; have cwp10_2 : wp10.cell? ⟨h_, 2, none⟩ = some (.int .i64 m) := (BH.out.stays q_wp10).cell 2; have cwp10_3 : wp10.cell? ⟨h_, 3, none⟩ = some (.int .i64 s) := (BH.out.stays q_wp10).cell 3; have cwp10_4 : wp10.cell? ⟨h_, 4, none⟩ = some (.int .i64 p) := (BH.out.stays q_wp10).cell 4; have cwp10_5 : wp10.cell? ⟨h_, 5, none⟩ = some (.int .i64 q) := (BH.out.stays q_wp10).cell 5; have cwp10_6 : wp10.cell? ⟨h_, 6, none⟩ = some (.int .u32 h6) := (BH.out.stays q_wp10).cell 6; have cwp10_7 : wp10.cell? ⟨h_, 7, none⟩ = some (.int .u32 h7) := (BH.out.stays q_wp10).cell 7; have cwp10_8 : wp10.cell? ⟨h_, 8, none⟩ = some (.int .u32 h8) := (BH.out.stays q_wp10).cell 8; have cwp10_9 : wp10.cell? ⟨h_, 9, none⟩ = some (.int .u64 h9) := (BH.out.stays q_wp10).cell 9; have cwp10_10 : wp10.cell? ⟨h_, 10, none⟩ = some (.int .u64 h10) := (BH.out.stays q_wp10).cell 10; have cwp10_11 : wp10.cell? ⟨h_, 11, none⟩ = some (.int .u64 h11) := (BH.out.stays q_wp10).cell 11; have cwp10_12 : wp10.cell? ⟨h_, 12, none⟩ = some (.int .u64 h12) := (BH.out.stays q_wp10).cell 12; clear hb hbx)
      | (go_at_call 59; (with_reducible refine (refPut8 h11 _).mono ?_); rintro e wp11 ⟨A11, c11, rfl, hp11, hb⟩; have hbx : Below wp10.heap.size wp10 wp11 := below_via (by go_grown) hb (by first | (simp; done) | (simp; omega)); have hp6 := hp6.stays hbx; have hp7 := hp7.stays hbx; have hp8 := hp8.stays hbx; have hp9 := hp9.stays hbx; have hp10 := hp10.stays hbx; (first | (have hd0 := Bytes.stays hd0 hbx) | (have hd0 := hd_made HOK.out hb) | (have hd0 := hd_madeD HOK.out hb) | skip); have q_wp11 : Below y3.heap.size y3 wp11 := q_wp10.trans (hbx.mono q_wp10.size); have cwp11_0 : wp11.cell? ⟨h_, 0, none⟩ = some (.int .i64 l) := (BH.out.stays q_wp11).cell 0; have cwp11_1 : wp11.cell? ⟨h_, 1, none⟩ = some (.int .i64 v) := (BH.out.stays q_wp11).cell 1; have cwp11_2 : wp11.cell? ⟨h_, 2, none⟩ = some (.int .i64 m) := (BH.out.stays q_wp11).cell 2; have cwp11_3 : wp11.cell? ⟨h_, 3, none⟩ = some (.int .i64 s) := (BH.out.stays q_wp11).cell 3; have cwp11_4 : wp11.cell? ⟨h_, 4, none⟩ = some (.int .i64 p) := (BH.out.stays q_wp11).cell 4; have cwp11_5 : wp11.cell? ⟨h_, 5, none⟩ = some (.int .i64 q) := (BH.out.stays q_wp11).cell 5; have cwp11_6 : wp11.cell? ⟨h_, 6, none⟩ = some (.int .u32 h6) := (BH.out.stays q_wp11).cell 6; have cwp11_7 : wp11.cell? ⟨h_, 7, none⟩ = some (.int .u32 h7) := (BH.out.stays q_wp11).cell 7; have cwp11_8 : wp11.cell? ⟨h_, 8, none⟩ = some (.int .u32 h8) := (BH.out.stays q_wp11).cell 8; have cwp11_9 : wp11.cell? ⟨h_, 9, none⟩ = some (.int .u64 h9) := (BH.out.stays q_wp11).cell 9; have cwp11_10 : wp11.cell? ⟨h_, 10, none⟩ = some (.int .u64 h10) := (BH.out.stays q_wp11).cell 10; have cwp11_11 : wp11.cell? ⟨h_, 11, none⟩ = some (.int .u64 h11) := (BH.out.stays q_wp11).cell 11; have cwp11_12 : wp11.cell? ⟨h_, 12, none⟩ = some (.int .u64 h12) := (BH.out.stays q_wp11).cell 12; clear hb hbx)
      | (go_at_call 59; (with_reducible refine (refPut8 h12 _).mono ?_); rintro e wp12 ⟨A12, c12, rfl, hp12, hb⟩; have hbx : Below wp11.heap.size wp11 wp12 := below_via (by go_grown) hb (by first | (simp; done) | (simp; omega)); have hp6 := hp6.stays hbx; have hp7 := hp7.stays hbx; have hp8 := hp8.stays hbx; have hp9 := hp9.stays hbx; have hp10 := hp10.stays hbx; have hp11 := hp11.stays hbx; (first | (have hd0 := Bytes.stays hd0 hbx) | (have hd0 := hd_made HOK.out hb) | (have hd0 := hd_madeD HOK.out hb) | skip); have q_wp12 : Below y3.heap.size y3 wp12 := q_wp11.trans (hbx.mono q_wp11.size); have cwp12_0 : wp12.cell? ⟨h_, 0, none⟩ = some (.int .i64 l) := (BH.out.stays q_wp12).cell 0; have cwp12_1 : wp12.cell? ⟨h_, 1, none⟩ = some (.int .i64 v) := (BH.out.stays q_wp12).cell 1; have cwp12_2 : wp12.cell? ⟨h_, 2, none⟩ = some (.int .i64 m) := (BH.out.stays q_wp12).cell 2; have cwp12_3 : wp12.cell? ⟨h_, 3, none⟩ = some (.int .i64 s) := (BH.out.stays q_wp12).cell 3; have cwp12_4 : wp12.cell? ⟨h_, 4, none⟩ = some (.int .i64 p) := (BH.out.stays q_wp12).cell 4; have cwp12_5 : wp12.cell? ⟨h_, 5, none⟩ = some (.int .i64 q) := (BH.out.stays q_wp12).cell 5; have cwp12_6 : wp12.cell? ⟨h_, 6, none⟩ = some (.int .u32 h6) := (BH.out.stays q_wp12).cell 6; have cwp12_7 : wp12.cell? ⟨h_, 7, none⟩ = some (.int .u32 h7) := (BH.out.stays q_wp12).cell 7; have cwp12_8 : wp12.cell? ⟨h_, 8, none⟩ = some (.int .u32 h8) := (BH.out.stays q_wp12).cell 8; have cwp12_9 : wp12.cell? ⟨h_, 9, none⟩ = some (.int .u64 h9) := (BH.out.stays q_wp12).cell 9; have cwp12_10 : wp12.cell? ⟨h_, 10, none⟩ = some (.int .u64 h10) := (BH.out.stays q_wp12).cell 10; have cwp12_11 : wp12.cell? ⟨h_, 11, none⟩ = some (.int .u64 h11) := (BH.out.stays q_wp12).cell 11; have cwp12_12 : wp12.cell? ⟨h_, 12, none⟩ = some (.int .u64 h12) := (BH.out.stays q_wp12).cell 12; clear hb hbx)
      | (go_at_call 30; (first | (with_reducible refine (refJoin_any _ _ _ [hdHead l v m s p q, putL h6 4, putL h7 4, putL h8 4, putL h9 8, putL h10 8, putL h11 8, putL h12 8] _ (lists_made8 hd0 hp6 hp7 hp8 hp9 hp10 hp11 hp12) 48 (by simp [hdHead, putL_length]) (by omega)).mono ?_) | (with_reducible refine (refJoin_any _ _ _ [hdHead l v m s p q, putL h6 4, putL h7 4, putL h8 4, putL h9 8, putL h10 8, putL h11 8, putL h12 8] _ (join_late HOK.out hp6 hp7 hp8 hp9 hp10 hp11 hp12) 48 (by simp [hdHead, putL_length]) (by omega)).mono ?_)); rintro e wj ⟨Aj, cj, rfl, hj, hb⟩; have qj : Below wp12.heap.size wp12 wj := below_via (by go_grown) hb (by first | (simp; done) | (simp; omega)); have q_wj : Below y3.heap.size y3 wj := q_wp12.trans (qj.mono q_wp12.size); have cwj_0 : wj.cell? ⟨h_, 0, none⟩ = some (.int .i64 l) := (BH.out.stays q_wj).cell 0; have cwj_1 : wj.cell? ⟨h_, 1, none⟩ = some (.int .i64 v) := (BH.out.stays q_wj).cell 1; have cwj_2 : wj.cell? ⟨h_, 2, none⟩ = some (.int .i64 m) := (BH.out.stays q_wj).cell 2; have cwj_3 : wj.cell? ⟨h_, 3, none⟩ = some (.int .i64 s) := (BH.out.stays q_wj).cell 3; have cwj_4 : wj.cell? ⟨h_, 4, none⟩ = some (.int .i64 p) := (BH.out.stays q_wj).cell 4; have cwj_5 : wj.cell? ⟨h_, 5, none⟩ = some (.int .i64 q) := (BH.out.stays q_wj).cell 5; have cwj_6 : wj.cell? ⟨h_, 6, none⟩ = some (.int .u32 h6) := (BH.out.stays q_wj).cell 6; have cwj_7 : wj.cell? ⟨h_, 7, none⟩ = some (.int .u32 h7) := (BH.out.stays q_wj).cell 7; have cwj_8 : wj.cell? ⟨h_, 8, none⟩ = some (.int .u32 h8) := (BH.out.stays q_wj).cell 8; have cwj_9 : wj.cell? ⟨h_, 9, none⟩ = some (.int .u64 h9) := (BH.out.stays q_wj).cell 9; have cwj_10 : wj.cell? ⟨h_, 10, none⟩ = some (.int .u64 h10) := (BH.out.stays q_wj).cell 10; have cwj_11 : wj.cell? ⟨h_, 11, none⟩ = some (.int .u64 h11) := (BH.out.stays q_wj).cell 11; have cwj_12 : wj.cell? ⟨h_, 12, none⟩ = some (.int .u64 h12) := (BH.out.stays q_wj).cell 12))
  all_goals
    have VJ := Lib.hid (rd_join8 hj)
    have RJ := Lib.hid (R4.out.trans ((q_wp12.trans (qj.mono q_wp12.size)).mono hz_y3))
    clear hj hb qj
    go_wp2_with fail
    go_returns
    exact ⟨Aj, cj, rfl, VJ.out, RJ.out⟩
end Go.Proofs.Ytnpfndlmbaafaaa
