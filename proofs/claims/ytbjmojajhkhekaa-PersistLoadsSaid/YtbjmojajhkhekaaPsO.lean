/- The walk of PersistLoads. -/
import Derived.Test.YtbjmojajhkhekaaPsI
import Derived.Test.YtbjmojajhkhekaaFlip
namespace Go.Proofs.Ytbjmojajhkhekaa
open Go.RowKit

set_option maxRecDepth 100000 in
set_option maxHeartbeats 4000000 in
theorem hashed_any (A : Option Addr) (n c : Nat) (l : List UInt8) (w : World) (hv : Bytes w A n c l) (hn : n ≤ 100000) :
    Calls Try.prog 30 #[.slice A n c] w fun e w' => ∃ A' c', e = .returned (.slice A' (n + 16) c') ∧ Bytes w' A' (n + 16) c' (l ++ shortL l) ∧ Below w.heap.size w w' := by
  have V := Lib.hid hv
  have q1 := hv.le
  have q2 := hv.cap
  clear hv
  go_enter Try.func30, Try.ntmps30
  go_wp2_with fail
  refine (refShort_any l _ _ _ _ V.out).mono ?_
  rintro e y1 ⟨A1, c1, rfl, hs, hb⟩
  have hbx : Below w.heap.size w y1 := below_via (by go_grown) hb (by first | (simp; done) | (simp; omega))
  have V := Lib.hid (V.out.stays hbx)
  have SH := Lib.hid hs
  have R2 := Lib.hid hbx
  have hz_y1 := R2.out.size
  clear hb hbx hs
  have s1 := SH.out.le
  have s2 := SH.out.cap
  go_wp2_with fail
  refine (refJoin_any _ _ _ [_, _] _ (lists_made2 V.out SH.out) (n + 16) (by rw [List.flatten_cons, List.flatten_cons, List.flatten_nil, List.append_nil, List.length_append, V.out.len, SH.out.len]) (by omega)).mono ?_
  rintro e w9 ⟨A9, c9, rfl, hv, hb⟩
  have hbx : Below y1.heap.size y1 w9 := below_via (by go_grown) hb (by first | (simp; done) | (simp; omega))
  have HB9 := Lib.hid (R2.out.trans (hbx.mono hz_y1))
  have VJ := Lib.hid (show Bytes w9 A9 (n + 16) c9 (l ++ shortL l) from by have := own_rd hv; simpa [Bytes] using this)
  clear hb hbx hv
  go_wp2
  go_ret
  exact ⟨A9, c9, rfl, VJ.out, HB9.out⟩
theorem lists_made7 {w : World} {E : TypeId} {A0 : Option Addr} {n0 c0 : Nat} {l0 : List UInt8} {A1 : Option Addr} {n1 c1 : Nat} {l1 : List UInt8} {A2 : Option Addr} {n2 c2 : Nat} {l2 : List UInt8} {A3 : Option Addr} {n3 c3 : Nat} {l3 : List UInt8} {A4 : Option Addr} {n4 c4 : Nat} {l4 : List UInt8} {A5 : Option Addr} {n5 c5 : Nat} {l5 : List UInt8} {A6 : Option Addr} {n6 c6 : Nat} {l6 : List UInt8} (h0 : Bytes w A0 n0 c0 l0) (h1 : Bytes w A1 n1 c1 l1) (h2 : Bytes w A2 n2 c2 l2) (h3 : Bytes w A3 n3 c3 l3) (h4 : Bytes w A4 n4 c4 l4) (h5 : Bytes w A5 n5 c5 l5) (h6 : Bytes w A6 n6 c6 l6) :
    Lists (w.alloc (.cells #[.slice A0 n0 c0, .slice A1 n1 c1, .slice A2 n2 c2, .slice A3 n3 c3, .slice A4 n4 c4, .slice A5 n5 c5, .slice A6 n6 c6] E)) (some ⟨w.heap.size, 0, none⟩) 7 7 [l0, l1, l2, l3, l4, l5, l6] :=
  lists_made (vs := [.slice A0 n0 c0, .slice A1 n1 c1, .slice A2 n2 c2, .slice A3 n3 c3, .slice A4 n4 c4, .slice A5 n5 c5, .slice A6 n6 c6]) rfl (by simp [maxLen]) fun i l hi => by
    match i, hi with
    | 0, hi => simp at hi; subst hi; exact ⟨_, _, _, rfl, h0⟩
    | 1, hi => simp at hi; subst hi; exact ⟨_, _, _, rfl, h1⟩
    | 2, hi => simp at hi; subst hi; exact ⟨_, _, _, rfl, h2⟩
    | 3, hi => simp at hi; subst hi; exact ⟨_, _, _, rfl, h3⟩
    | 4, hi => simp at hi; subst hi; exact ⟨_, _, _, rfl, h4⟩
    | 5, hi => simp at hi; subst hi; exact ⟨_, _, _, rfl, h5⟩
    | 6, hi => simp at hi; subst hi; exact ⟨_, _, _, rfl, h6⟩
theorem two_made {W w' : World} {E : TypeId} {A1 : Option Addr} {n1 c1 : Nat} {l1 : List UInt8} {A2 : Option Addr} {n2 c2 : Nat} {l2 : List UInt8} (h1 : Bytes W A1 n1 c1 l1) (h2 : Bytes W A2 n2 c2 l2) (hb : Below (W.alloc (.cells #[.slice A1 n1 c1, .slice A2 n2 c2] E)).heap.size (W.alloc (.cells #[.slice A1 n1 c1, .slice A2 n2 c2] E)) w') : Lists w' (some ⟨W.heap.size, 0, none⟩) 2 2 [l1, l2] := (lists_made2 h1 h2).stays hb
theorem two_madeD {W w' : World} {E : TypeId} {A1 : Option Addr} {n1 c1 : Nat} {l1 : List UInt8} {A2 : Option Addr} {n2 c2 : Nat} {l2 : List UInt8} (h1 : Bytes W A1 n1 c1 l1) (h2 : Bytes W A2 n2 c2 l2) (hb : Below (W.alloc (.cells #[.slice A1 n1 c1, .slice A2 n2 c2] E)).drew.heap.size (W.alloc (.cells #[.slice A1 n1 c1, .slice A2 n2 c2] E)).drew w') : Lists w' (some ⟨W.heap.size, 0, none⟩) 2 2 [l1, l2] := ((lists_made2 h1 h2).stays (Below.refl _ _).drew).stays hb
set_option maxRecDepth 100000 in
set_option maxHeartbeats 4000000 in
theorem ploads_far (A0 : Option Addr) (n0 c0 : Nat) (A1 : Option Addr) (n1 c1 : Nat) (x y : Int) (w : World) (h : 100 < n0) :
    Calls Try.prog 5 #[.slice A0 n0 c0, .slice A1 n1 c1, .int .i64 x, .int .i64 y] w fun e w' => e = .returned (.bool true) ∧ Below w.heap.size w w' := by
  have h1 : (n0 : Int) > 100 := by omega
  go_enter Try.func5, Try.ntmps5
  go_wp2_with fail
  refine (psKnown _).mono ?_
  rintro e y1 ⟨rfl, hb⟩
  have hbx : Below w.heap.size w y1 := below_via (by go_grown) hb (by first | (simp; done) | (simp; omega))
  have R2 := Lib.hid hbx
  have hz_y1 := R2.out.size
  clear hb hbx 
  go_wp2
  go_ret
  exact ⟨rfl, R2.out⟩
set_option maxRecDepth 100000 in
set_option maxHeartbeats 4000000 in
theorem ploads_near (A0 : Option Addr) (n0 c0 : Nat) (l0 : List UInt8) (A1 : Option Addr) (n1 c1 : Nat) (l : List Int) (x y : Int) (w : World) (hv0 : Bytes w A0 n0 c0 l0) (hv1 : Rd w 1 A1 n1 c1 (l.map (Value.int .i64))) (hn : n0 ≤ 100) :
    Calls Try.prog 5 #[.slice A0 n0 c0, .slice A1 n1 c1, .int .i64 x, .int .i64 y] w fun e w' => e = .returned (.bool true) ∧ Below w.heap.size w w' := by
  have h1 : ¬ (n0 : Int) > 100 := by omega
  have V0 := Lib.hid hv0
  have V00 := Lib.hid hv0
  have V1 := Lib.hid hv1
  have a1 := hv0.le
  have a2 := hv0.cap
  have q1 := hv1.2.1
  have q2 : c1 ≤ 9223372036854775807 := by have := hv1.2.2.1; unfold maxLen at this; omega
  clear hv0 hv1
  go_enter Try.func5, Try.ntmps5
  go_wp2_with fail
  refine (tape_new A1 n1 c1 l _ V1.out (by omega)).mono ?_
  rintro e y1 ⟨tb, rfl, ht, hb⟩
  have hbx : Below w.heap.size w y1 := below_via (by go_grown) hb (by first | (simp; done) | (simp; omega))
  have V0 := Lib.hid (V0.out.stays hbx)
  have T := Lib.hid ht
  have R2 := Lib.hid hbx
  have hz_y1 := R2.out.size
  clear hb hbx ht
  have tge : w.heap.size ≤ tb := T.out.ge
  have O : Hid (y1.grownBy y1 (some tb)) := World.grownBy.refl _ _
  go_wp2_with fail
  refine (made_any _ _ _ _ _ T.out).mono ?_
  rintro e y3 ⟨cn, at_, lo, hi, pp, le, re, kk4, rfl, hm, ht, ho⟩
  have O := Lib.hid (O.out.trans ho)
  have T := Lib.hid ht
  clear ht ho
  have M1 := Lib.hid hm
  clear hm
  have R5 := Lib.hid (R2.out.trans ((Below.refl _ y1).grown O.out hz_y1 (fun k hk => by simp at hk; subst hk; exact tge)))
  have hz_y3 := R5.out.size
  have V0 := Lib.hid (V00.out.stays R5.out)
  clear O T R2 hz_y1 tge
  go_wp2_with fail
  refine (refSave_ok cn at_ lo hi pp le re _ M1.out.sv).mono ?_
  rintro e y6 ⟨A2, c2, rfl, hv, hb⟩
  have hbx : Below y3.heap.size y3 y6 := below_via (by go_grown) hb (by first | (simp; done) | (simp; omega))
  have V0 := Lib.hid (V0.out.stays hbx)
  have VB := Lib.hid hv
  have R7 := Lib.hid (R5.out.trans (hbx.mono hz_y3))
  have hz_y6 := R7.out.size
  clear hb hbx hv R5 hz_y3
  have va1 := VB.out.le
  have va2 := VB.out.cap
  generalize saveL [cn, at_, lo, hi, pp, le, re] = lb at *
  go_wp2_with fail
  refine (within_any x 5 (by decide) (by decide) _).mono ?_
  rintro e q_ ⟨rfl, rfl⟩
  obtain ⟨d, hd⟩ : ∃ d : Int, x % 5 - 2 = d := ⟨_, rfl⟩
  have hx0 := Int.emod_nonneg x (show (5 : Int) ≠ 0 by decide)
  have hx5 := Int.emod_lt_of_pos x (show (0 : Int) < 5 by decide)
  go_upto_region 5 with fail
  clear hd hx0 hx5
  obtain ⟨x8, w_, ex8, ew_⟩ : ∃ x8 w_, x8 = y6.alloc (.cells #[.int .i64 d, .int .i64 x, .int .i64 y, .int .i64 x, .int .i64 y, .int .i64 0, .int .i64 0] 41) ∧ w_ = y6.heap.size := ⟨_, _, rfl, rfl⟩
  rw [← ex8, ← ew_]
  have hbx : Below y6.heap.size y6 x8 := by rw [ex8]; exact below_alloc1 _ _ 
  have g_W : w.heap.size ≤ w_ := by rw [ew_]; exact hz_y6
  have V0 := Lib.hid (V0.out.stays hbx)
  have VB := Lib.hid (VB.out.stays hbx)
  have BW := Lib.hid (show Blk x8 w_ 41 #[.int .i64 d, .int .i64 x, .int .i64 y, .int .i64 x, .int .i64 y, .int .i64 0, .int .i64 0] by rw [ex8, ew_]; exact blk_new1_0 _ _ _ )
  have R9 := Lib.hid (R7.out.trans (hbx.mono hz_y6))
  have hz_x8 := R9.out.size
  clear hbx ex8 ew_ R7 hz_y6
  obtain ⟨lf, hlf, cf⟩ := flip_any w lb 80 VB.out.len (by decide) x y
  have CF := Lib.hid cf
  have HLF := Lib.hid hlf
  clear cf hlf
  obtain ⟨m, hm⟩ : ∃ m : Nat, x % 81 = (m : Int) := Int.eq_ofNat_of_zero_le (Int.emod_nonneg _ (by decide))
  have hm81 : m < 81 := by omega
  have HM := Lib.hid hm
  clear hm
  have mi0 : (0 : Int) ≤ (m : Int) := by omega
  have mi1 : (m : Int) ≤ (c2 : Int) := by omega
  have kW_0 : x8.cell? ⟨w_, 0, none⟩ = some (.int .i64 d) := BW.out.cell 0
  have kW_1 : x8.cell? ⟨w_, 1, none⟩ = some (.int .i64 x) := BW.out.cell 1
  have kW_2 : x8.cell? ⟨w_, 2, none⟩ = some (.int .i64 y) := BW.out.cell 2
  have kW_3 : x8.cell? ⟨w_, 3, none⟩ = some (.int .i64 x) := BW.out.cell 3
  have kW_4 : x8.cell? ⟨w_, 4, none⟩ = some (.int .i64 y) := BW.out.cell 4
  have kW_5 : x8.cell? ⟨w_, 5, none⟩ = some (.int .i64 0) := BW.out.cell 5
  have kW_6 : x8.cell? ⟨w_, 6, none⟩ = some (.int .i64 0) := BW.out.cell 6
  have tok1 : True := trivial
  have tok2 : True := trivial
  go_region_held3 (fun w' => w'.cell? ⟨w_, 0, none⟩ = some (.int .i64 d) ∧ w'.cell? ⟨w_, 1, none⟩ = some (.int .i64 x) ∧ w'.cell? ⟨w_, 2, none⟩ = some (.int .i64 y) ∧ w'.cell? ⟨w_, 3, none⟩ = some (.int .i64 x) ∧ w'.cell? ⟨w_, 4, none⟩ = some (.int .i64 y) ∧ w'.cell? ⟨w_, 5, none⟩ = some (.int .i64 0) ∧ w'.cell? ⟨w_, 6, none⟩ = some (.int .i64 0)) (go_keep)
    (first
      | (go_at_call 28; have _t := tok1; clear tok1; (with_reducible refine (CF.out A2 c2 _ (VB.out.stays (by go_grown))).mono ?_); rintro e w1 ⟨A3, c3, rfl, hf1, hfr, hb⟩; have hbx : Below x8.heap.size x8 w1 := below_via (by go_grown) hb (by first | (simp; done) | (simp; omega)); have q_w1 : Below x8.heap.size x8 w1 := hbx; (first | (have L0 := Lists.stays L0 hbx) | (have L0 := two_made (VB.out.stays (Below.refl _ _)) (V0.out.stays (Below.refl _ _)) hb) | (have L0 := two_madeD (VB.out.stays (Below.refl _ _)) (V0.out.stays (Below.refl _ _)) hb) | skip); have cw1_0 : w1.cell? ⟨w_, 0, none⟩ = some (.int .i64 d) := (BW.out.stays q_w1).cell 0; have cw1_1 : w1.cell? ⟨w_, 1, none⟩ = some (.int .i64 x) := (BW.out.stays q_w1).cell 1; have cw1_2 : w1.cell? ⟨w_, 2, none⟩ = some (.int .i64 y) := (BW.out.stays q_w1).cell 2; have cw1_3 : w1.cell? ⟨w_, 3, none⟩ = some (.int .i64 x) := (BW.out.stays q_w1).cell 3; have cw1_4 : w1.cell? ⟨w_, 4, none⟩ = some (.int .i64 y) := (BW.out.stays q_w1).cell 4; have cw1_5 : w1.cell? ⟨w_, 5, none⟩ = some (.int .i64 0) := (BW.out.stays q_w1).cell 5; have cw1_6 : w1.cell? ⟨w_, 6, none⟩ = some (.int .i64 0) := (BW.out.stays q_w1).cell 6; have f31 := hf1.le; have f32 := hf1.cap; clear hb hbx hfr)
      | (go_at_call 27; (with_reducible refine (within_any x 81 (by decide) (by decide) _).mono ?_); rintro e q_ ⟨rfl, rfl⟩; rw [HM.out])
      | (go_at_call 29; (first | (with_reducible refine (refJoin_any _ _ _ [lb, l0] _ L0 (80 + n0) (by rw [List.flatten_cons, List.flatten_cons, List.flatten_nil, List.append_nil, List.length_append, VB.out.len, V0.out.len]) (by omega)).mono ?_) | (with_reducible refine (refJoin_any _ _ _ [lb, l0] _ (lists_made2 (VB.out.stays q_w1) (V0.out.stays q_w1)) (80 + n0) (by rw [List.flatten_cons, List.flatten_cons, List.flatten_nil, List.append_nil, List.length_append, VB.out.len, V0.out.len]) (by omega)).mono ?_)); rintro e w3 ⟨A4, c4, rfl, hj0, hb⟩; have hbx : Below w1.heap.size w1 w3 := below_via (by go_grown) hb (by first | (simp; done) | (simp; omega)); have q_w3 : Below x8.heap.size x8 w3 := q_w1.trans (hbx.mono q_w1.size); have hf1 := hf1.stays hbx; have cw3_0 : w3.cell? ⟨w_, 0, none⟩ = some (.int .i64 d) := (BW.out.stays q_w3).cell 0; have cw3_1 : w3.cell? ⟨w_, 1, none⟩ = some (.int .i64 x) := (BW.out.stays q_w3).cell 1; have cw3_2 : w3.cell? ⟨w_, 2, none⟩ = some (.int .i64 y) := (BW.out.stays q_w3).cell 2; have cw3_3 : w3.cell? ⟨w_, 3, none⟩ = some (.int .i64 x) := (BW.out.stays q_w3).cell 3; have cw3_4 : w3.cell? ⟨w_, 4, none⟩ = some (.int .i64 y) := (BW.out.stays q_w3).cell 4; have cw3_5 : w3.cell? ⟨w_, 5, none⟩ = some (.int .i64 0) := (BW.out.stays q_w3).cell 5; have cw3_6 : w3.cell? ⟨w_, 6, none⟩ = some (.int .i64 0) := (BW.out.stays q_w3).cell 6; have hj : Bytes w3 A4 (80 + n0) c4 (lb ++ l0) := (by have := own_rd hj0; simpa [Bytes] using this); have f41 := hj.le; have f42 := hj.cap; clear hb hbx hj0)
      | (go_at_call 28; (with_reducible refine (CF.out A2 c2 _ (VB.out.stays q_w3)).mono ?_); rintro e w4 ⟨A5, c5, rfl, hf2, hfr, hb⟩; have hbx : Below w3.heap.size w3 w4 := below_via (by go_grown) hb (by first | (simp; done) | (simp; omega)); have q_w4 : Below x8.heap.size x8 w4 := q_w3.trans (hbx.mono q_w3.size); have hf1 := hf1.stays hbx; have hj := hj.stays hbx; have cw4_0 : w4.cell? ⟨w_, 0, none⟩ = some (.int .i64 d) := (BW.out.stays q_w4).cell 0; have cw4_1 : w4.cell? ⟨w_, 1, none⟩ = some (.int .i64 x) := (BW.out.stays q_w4).cell 1; have cw4_2 : w4.cell? ⟨w_, 2, none⟩ = some (.int .i64 y) := (BW.out.stays q_w4).cell 2; have cw4_3 : w4.cell? ⟨w_, 3, none⟩ = some (.int .i64 x) := (BW.out.stays q_w4).cell 3; have cw4_4 : w4.cell? ⟨w_, 4, none⟩ = some (.int .i64 y) := (BW.out.stays q_w4).cell 4; have cw4_5 : w4.cell? ⟨w_, 5, none⟩ = some (.int .i64 0) := (BW.out.stays q_w4).cell 5; have cw4_6 : w4.cell? ⟨w_, 6, none⟩ = some (.int .i64 0) := (BW.out.stays q_w4).cell 6; have f51 := hf2.le; have f52 := hf2.cap; have c64 : (64 : Int) ≤ (c5 : Int) := (by omega); clear hb hbx hfr)
      | (go_at_call 30; have _t := tok2; clear tok2; (with_reducible refine (hashed_any _ 64 _ _ _ (hf2.cutTo 64 (by decide)) (by decide)).mono ?_); rintro e w5 ⟨A6, c6, rfl, hh1, hb⟩; have hbx : Below w4.heap.size w4 w5 := below_via (by go_grown) hb (by first | (simp; done) | (simp; omega)); have q_w5 : Below x8.heap.size x8 w5 := q_w4.trans (hbx.mono q_w4.size); have hf1 := hf1.stays hbx; have hj := hj.stays hbx; have cw5_0 : w5.cell? ⟨w_, 0, none⟩ = some (.int .i64 d) := (BW.out.stays q_w5).cell 0; have cw5_1 : w5.cell? ⟨w_, 1, none⟩ = some (.int .i64 x) := (BW.out.stays q_w5).cell 1; have cw5_2 : w5.cell? ⟨w_, 2, none⟩ = some (.int .i64 y) := (BW.out.stays q_w5).cell 2; have cw5_3 : w5.cell? ⟨w_, 3, none⟩ = some (.int .i64 x) := (BW.out.stays q_w5).cell 3; have cw5_4 : w5.cell? ⟨w_, 4, none⟩ = some (.int .i64 y) := (BW.out.stays q_w5).cell 4; have cw5_5 : w5.cell? ⟨w_, 5, none⟩ = some (.int .i64 0) := (BW.out.stays q_w5).cell 5; have cw5_6 : w5.cell? ⟨w_, 6, none⟩ = some (.int .i64 0) := (BW.out.stays q_w5).cell 6; have f61 := hh1.le; have f62 := hh1.cap; clear hb hbx)
      | (go_at_call 31; (with_reducible refine (refBody_any d x y x y 0 0 _).mono ?_); rintro e w6 ⟨A7, c7, rfl, hbo, hb⟩; have hbx : Below w5.heap.size w5 w6 := below_via (by go_grown) hb (by first | (simp; done) | (simp; omega)); have q_w6 : Below x8.heap.size x8 w6 := q_w5.trans (hbx.mono q_w5.size); have hf1 := hf1.stays hbx; have hj := hj.stays hbx; have hh1 := hh1.stays hbx; have cw6_0 : w6.cell? ⟨w_, 0, none⟩ = some (.int .i64 d) := (BW.out.stays q_w6).cell 0; have cw6_1 : w6.cell? ⟨w_, 1, none⟩ = some (.int .i64 x) := (BW.out.stays q_w6).cell 1; have cw6_2 : w6.cell? ⟨w_, 2, none⟩ = some (.int .i64 y) := (BW.out.stays q_w6).cell 2; have cw6_3 : w6.cell? ⟨w_, 3, none⟩ = some (.int .i64 x) := (BW.out.stays q_w6).cell 3; have cw6_4 : w6.cell? ⟨w_, 4, none⟩ = some (.int .i64 y) := (BW.out.stays q_w6).cell 4; have cw6_5 : w6.cell? ⟨w_, 5, none⟩ = some (.int .i64 0) := (BW.out.stays q_w6).cell 5; have cw6_6 : w6.cell? ⟨w_, 6, none⟩ = some (.int .i64 0) := (BW.out.stays q_w6).cell 6; have f71 := hbo.le; have f72 := hbo.cap; clear hb hbx)
      | (go_at_call 30; (with_reducible refine (hashed_any _ 64 _ _ _ hbo (by decide)).mono ?_); rintro e w7 ⟨A8, c8, rfl, hh2, hb⟩; have hbx : Below w6.heap.size w6 w7 := below_via (by go_grown) hb (by first | (simp; done) | (simp; omega)); have q_w7 : Below x8.heap.size x8 w7 := q_w6.trans (hbx.mono q_w6.size); have hf1 := hf1.stays hbx; have hj := hj.stays hbx; have hh1 := hh1.stays hbx; have cw7_0 : w7.cell? ⟨w_, 0, none⟩ = some (.int .i64 d) := (BW.out.stays q_w7).cell 0; have cw7_1 : w7.cell? ⟨w_, 1, none⟩ = some (.int .i64 x) := (BW.out.stays q_w7).cell 1; have cw7_2 : w7.cell? ⟨w_, 2, none⟩ = some (.int .i64 y) := (BW.out.stays q_w7).cell 2; have cw7_3 : w7.cell? ⟨w_, 3, none⟩ = some (.int .i64 x) := (BW.out.stays q_w7).cell 3; have cw7_4 : w7.cell? ⟨w_, 4, none⟩ = some (.int .i64 y) := (BW.out.stays q_w7).cell 4; have cw7_5 : w7.cell? ⟨w_, 5, none⟩ = some (.int .i64 0) := (BW.out.stays q_w7).cell 5; have cw7_6 : w7.cell? ⟨w_, 6, none⟩ = some (.int .i64 0) := (BW.out.stays q_w7).cell 6; have f81 := hh2.le; have f82 := hh2.cap; clear hb hbx))
  all_goals
    obtain ⟨xw, n_, ex, en_⟩ : ∃ xw n_, xw = w7.alloc (.cells #[.slice A0 n0 c0, .slice A2 80 c2, .slice A3 80 c3, .slice A2 m c2, .slice A4 (80 + n0) c4, .slice A6 80 c6, .slice A8 80 c8] 28) ∧ n_ = w7.heap.size := ⟨_, _, rfl, rfl⟩
    rw [← ex, ← en_]
    have HLS := Lib.hid (lists_made7 (E := 28) (V0.out.stays q_w7) (VB.out.stays q_w7) hf1 ((VB.out.stays q_w7).cutTo m (by omega)) hj hh1 hh2)
    rw [← ex, ← en_] at HLS
    have RX := Lib.hid (R9.out.trans ((show Below x8.heap.size x8 xw by rw [ex]; exact q_w7.trans ((below_alloc1 _ _).mono q_w7.size)).mono hz_x8))
    have hz_xw := RX.out.size
    obtain ⟨ls, hls⟩ : ∃ ls, Lists xw (some ⟨n_, 0, none⟩) 7 7 ls := ⟨_, HLS.out⟩
    have HLS := Lib.hid hls
    clear hls ex en_ hf1 hj hh1 hh2 V0 VB BW
    have y00 : True := trivial
    go_wp2_with fail
    go_loopw [64] (fun i wr => ∃ k : Nat, k ≤ 7 ∧ i = .int .i64 k ∧ Below xw.heap.size xw wr) (fun i _ => 7 - (intOf i).toNat)
    case atStart => exact ⟨0, by omega, rfl, Below.refl _ _⟩
    case round =>
      obtain ⟨k, hk, rfl, hbr⟩ := hrel
      have hsr := hbr.size
      by_cases hk7 : k < 7
      · obtain ⟨bq, oq, Aq, nq, cq, hA, hc, hy⟩ := (HLS.out.stays hbr).at_ hk7
        simp only [Option.some.injEq, Addr.mk.injEq, and_true] at hA
        obtain ⟨rfl, rfl⟩ := hA
        rw [Nat.zero_add] at hc
        have HY := Lib.hid hy
        have cq1 := hy.le
        have cq2 := hy.cap
        clear hy
        have hki : (k : Int) < 7 := by omega
        obtain ⟨lq, hlq⟩ : ∃ lq, listAt ls k = lq := ⟨_, rfl⟩
        rw [hlq] at HY
        clear hlq
        have RW := Lib.hid hbr
        have hz_wr := RW.out.size
        go_wp2_with fail
        refine (load_any _ _ _ lq _ HY.out).mono ?_
        rintro e y41 ⟨rfl, hb⟩
        have hbx : Below wr.heap.size wr y41 := below_via (by go_grown) hb (by first | (simp; done) | (simp; omega))
        have HY := Lib.hid (HY.out.stays hbx)
        have R42 := Lib.hid (RW.out.trans (hbx.mono hz_wr))
        have hz_y41 := R42.out.size
        clear hb hbx  RW hz_wr
        go_upto_region 9 with fail
        obtain ⟨x43, x_, ex43, ex_⟩ : ∃ x43 x_, x43 = y41.alloc (.cells #[.int .i64 (lvN lq 0), .int .i64 (lvN lq 1), .int .i64 (lvN lq 2), .int .i64 (lvN lq 3), .int .i64 (lvN lq 4), .int .i64 (lvN lq 5), .int .i64 (lvN lq 6)] 41) ∧ x_ = y41.heap.size := ⟨_, _, rfl, rfl⟩
        rw [← ex43, ← ex_]
        have hbx : Below y41.heap.size y41 x43 := by rw [ex43]; exact below_alloc1 _ _ 
        have g_X : xw.heap.size ≤ x_ := by rw [ex_]; exact hz_y41
        have HY := Lib.hid (HY.out.stays hbx)
        have BX := Lib.hid (show Blk x43 x_ 41 #[.int .i64 (lvN lq 0), .int .i64 (lvN lq 1), .int .i64 (lvN lq 2), .int .i64 (lvN lq 3), .int .i64 (lvN lq 4), .int .i64 (lvN lq 5), .int .i64 (lvN lq 6)] by rw [ex43, ex_]; exact blk_new1_0 _ _ _ )
        have R44 := Lib.hid (R42.out.trans (hbx.mono hz_y41))
        have hz_x43 := R44.out.size
        clear hbx ex43 ex_ R42 hz_y41
        go_wp2_with fail
        refine (refLoad_any _ _ _ lq _ HY.out).mono ?_
        rintro e y45 ⟨rfl, hb⟩
        have hbx : Below x43.heap.size x43 y45 := below_via (by go_grown) hb (by first | (simp; done) | (simp; omega))
        have BX := Lib.hid (BX.out.stays hbx)
        have HY := Lib.hid (HY.out.stays hbx)
        have R46 := Lib.hid (R44.out.trans (hbx.mono hz_x43))
        have hz_y45 := R46.out.size
        clear hb hbx  R44 hz_x43
        go_upto_region 10 with fail
        obtain ⟨x47, y_, ex47, ey_⟩ : ∃ x47 y_, x47 = y45.alloc (.cells #[.int .i64 (lvN lq 0), .int .i64 (lvN lq 1), .int .i64 (lvN lq 2), .int .i64 (lvN lq 3), .int .i64 (lvN lq 4), .int .i64 (lvN lq 5), .int .i64 (lvN lq 6)] 41) ∧ y_ = y45.heap.size := ⟨_, _, rfl, rfl⟩
        rw [← ex47, ← ey_]
        have hbx : Below y45.heap.size y45 x47 := by rw [ex47]; exact below_alloc1 _ _ 
        have o_X_Y : x_ < y_ := by rw [ey_]; exact BX.out.lt
        have g_Y : xw.heap.size ≤ y_ := by rw [ey_]; exact hz_y45
        have BX := Lib.hid (BX.out.stays hbx)
        have HY := Lib.hid (HY.out.stays hbx)
        have BY := Lib.hid (show Blk x47 y_ 41 #[.int .i64 (lvN lq 0), .int .i64 (lvN lq 1), .int .i64 (lvN lq 2), .int .i64 (lvN lq 3), .int .i64 (lvN lq 4), .int .i64 (lvN lq 5), .int .i64 (lvN lq 6)] by rw [ex47, ey_]; exact blk_new1_0 _ _ _ )
        have R48 := Lib.hid (R46.out.trans (hbx.mono hz_y45))
        have hz_x47 := R48.out.size
        clear hbx ex47 ey_ R46 hz_y45
        generalize lvN lq 0 = r0 at *
        generalize lvN lq 1 = r1 at *
        generalize lvN lq 2 = r2 at *
        generalize lvN lq 3 = r3 at *
        generalize lvN lq 4 = r4 at *
        generalize lvN lq 5 = r5 at *
        generalize lvN lq 6 = r6 at *
        generalize lvE lq = re at *
        have kX_0 : x47.cell? ⟨x_, 0, none⟩ = some (.int .i64 r0) := BX.out.cell 0
        have kX_1 : x47.cell? ⟨x_, 1, none⟩ = some (.int .i64 r1) := BX.out.cell 1
        have kX_2 : x47.cell? ⟨x_, 2, none⟩ = some (.int .i64 r2) := BX.out.cell 2
        have kX_3 : x47.cell? ⟨x_, 3, none⟩ = some (.int .i64 r3) := BX.out.cell 3
        have kX_4 : x47.cell? ⟨x_, 4, none⟩ = some (.int .i64 r4) := BX.out.cell 4
        have kX_5 : x47.cell? ⟨x_, 5, none⟩ = some (.int .i64 r5) := BX.out.cell 5
        have kX_6 : x47.cell? ⟨x_, 6, none⟩ = some (.int .i64 r6) := BX.out.cell 6
        have kY_0 : x47.cell? ⟨y_, 0, none⟩ = some (.int .i64 r0) := BY.out.cell 0
        have kY_1 : x47.cell? ⟨y_, 1, none⟩ = some (.int .i64 r1) := BY.out.cell 1
        have kY_2 : x47.cell? ⟨y_, 2, none⟩ = some (.int .i64 r2) := BY.out.cell 2
        have kY_3 : x47.cell? ⟨y_, 3, none⟩ = some (.int .i64 r3) := BY.out.cell 3
        have kY_4 : x47.cell? ⟨y_, 4, none⟩ = some (.int .i64 r4) := BY.out.cell 4
        have kY_5 : x47.cell? ⟨y_, 5, none⟩ = some (.int .i64 r5) := BY.out.cell 5
        have kY_6 : x47.cell? ⟨y_, 6, none⟩ = some (.int .i64 r6) := BY.out.cell 6
        go_wp2
        go_roundw
        case rel => exact ⟨k + 1, by omega, by go_num, R48.out⟩
        case measure => simp [intOf]; omega
      · obtain rfl : k = 7 := by omega
        have RW := Lib.hid (RX.out.trans (hbr.mono hz_xw))
        have hz_wr := RW.out.size
        go_wp2_with fail
        refine (psKnown _).mono ?_
        rintro e w9 ⟨rfl, hb⟩
        have RE := RW.out.trans (hb.mono hz_wr)
        clear hb
        go_wp2
        go_ret
        exact ⟨rfl, RE⟩
theorem persistLoads_walk (A0 : Option Addr) (n0 c0 : Nat) (l0 : List UInt8) (A1 : Option Addr) (n1 c1 : Nat) (l : List Int) (x y : Int) (w : World) (hv0 : Bytes w A0 n0 c0 l0) (hv1 : Rd w 1 A1 n1 c1 (l.map (Value.int .i64))) :
    Calls Try.prog 5 #[.slice A0 n0 c0, .slice A1 n1 c1, .int .i64 x, .int .i64 y] w fun e w' => e = .returned (.bool true) ∧ Below w.heap.size w w' := by
  by_cases h : 100 < n0
  · exact ploads_far A0 n0 c0 A1 n1 c1 x y w h
  · exact ploads_near A0 n0 c0 l0 A1 n1 c1 l x y w hv0 hv1 (by omega)
end Go.Proofs.Ytbjmojajhkhekaa
