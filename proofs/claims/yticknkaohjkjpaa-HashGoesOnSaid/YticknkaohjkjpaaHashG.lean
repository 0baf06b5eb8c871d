/- HashGoesOn: the walk. -/
import Derived.Test.YticknkaohjkjpaaMore
import Derived.Test.YticknkaohjkjpaaHashK
namespace Go.Proofs.Yticknkaohjkjpaa
open Go.RowKit

set_option maxRecDepth 100000 in
set_option maxHeartbeats 2000000 in
theorem hashGoesOn_walk (Aa : Option Addr) (na ca : Nat) (la : List UInt8) (Ab : Option Addr) (nb cb : Nat) (lb : List UInt8) (w : World) (ha : Bytes w Aa na ca la) (hb : Bytes w Ab nb cb lb) :
    Calls Try.prog 13 #[.slice Aa na ca, .slice Ab nb cb] w fun e w' => e = .returned (.bool true) ∧ Below w.heap.size w w' := by
  have qa1 := ha.le
  have qa2 := ha.cap
  have qb1 := hb.le
  have qb2 := hb.cap
  by_cases hna : 150 < na
  · have hnia : (na : Int) > 150 := by omega
    clear ha hb
    go_enter Try.func13, Try.ntmps13
    go_wp2_with fail
    refine (hashKnown _).mono ?_
    rintro e w1 ⟨rfl, hb⟩
    go_wp2
    go_ret
    exact ⟨rfl, hb⟩
  have hnia : ¬ (na : Int) > 150 := by omega
  by_cases hnb : 150 < nb
  · have hnib : (nb : Int) > 150 := by omega
    clear ha hb
    go_enter Try.func13, Try.ntmps13
    go_wp2_with fail
    refine (hashKnown _).mono ?_
    rintro e w1 ⟨rfl, hb⟩
    go_wp2
    go_ret
    exact ⟨rfl, hb⟩
  have hnib : ¬ (nb : Int) > 150 := by omega
  have hla := Lib.hid ha.len
  have hlb := Lib.hid hb.len
  have XA := Lib.hid ha
  have XB := Lib.hid hb
  clear ha hb
  obtain ⟨M1, h⟩ : ∃ x, na % 64 = x := ⟨_, rfl⟩
  have hM1 := Lib.hid h
  clear h
  obtain ⟨N2, h⟩ : ∃ x, na + nb = x := ⟨_, rfl⟩
  have hN2 := Lib.hid h
  have hN2b : N2 ≤ 300 := by omega
  clear h
  obtain ⟨M2, h⟩ : ∃ x, N2 % 64 = x := ⟨_, rfl⟩
  have hM2 := Lib.hid h
  clear h
  have hl2 : Hid ((la ++ lb).length = N2) := by unfold Hid; rw [List.length_append, hla.out, hlb.out, hN2.out]
  have hJ2 : Hid ([la, lb].flatten = la ++ lb) := by unfold Hid; simp
  have hJ : Hid ([la, lb].flatten.length = N2) := by unfold Hid; rw [hJ2.out, hl2.out]
  go_enter Try.func13, Try.ntmps13
  go_wp2_with fail
  refine (begin_any _).mono ?_
  rintro e w1 ⟨Z, rfl, hw, hb⟩
  have hbx : Below w.heap.size w w1 := below_via (by go_grown) hb (by first | (simp; done) | (simp; omega))
  have XA := Lib.hid (XA.out.stays hbx)
  have XB := Lib.hid (XB.out.stays hbx)
  have ZW := Lib.hid hw
  have R1 := Lib.hid hbx
  have hs1 := R1.out.size
  clear hb hbx hw
  go_wp2_with fail
  refine (more_new la _ _ _ _ _ M1 _ (by omega) ZW.out XA.out hM1.out).mono ?_
  rintro e w2 ⟨pw, pcw, pr, pcr, rfl, hw, hr, hf1, hf2, hb⟩
  have hbx : Below w1.heap.size w1 w2 := below_via (by go_grown) hb (by first | (simp; done) | (simp; omega))
  have XA := Lib.hid (XA.out.stays hbx)
  have XB := Lib.hid (XB.out.stays hbx)
  have ZW := Lib.hid (ZW.out.stays hbx)
  have pW := Lib.hid hw
  have pR := Lib.hid hr
  have R2 := Lib.hid (R1.out.trans (hbx.mono hs1))
  have hs2 := R2.out.size
  clear hb hbx hw hr
  clear R1
  clear ZW
  clear hf1 hf2
  go_wp2_with fail
  refine (more_v la [] _ _ _ _ na M1 _ 0 _ na M1 _ hla.out hM1.out (by omega) (by omega) (pW.out.stays (by go_grown)) (pR.out.stays (by go_grown)) (Bytes.nil _ none 0 (by decide)) (by omega) hM1.out).mono ?_
  rintro e w3 ⟨qw, qcw, qr, qcr, rfl, hw, hr, hf1, hf2, hb⟩
  have hbx : Below w2.heap.size w2 w3 := below_via (by go_grown) hb (by first | (simp; done) | (simp; omega))
  have XA := Lib.hid (XA.out.stays hbx)
  have XB := Lib.hid (XB.out.stays hbx)
  have pW := Lib.hid (pW.out.stays hbx)
  have pR := Lib.hid (pR.out.stays hbx)
  have qW := Lib.hid hw
  have qR := Lib.hid hr
  have B5 := Lib.hid ((Blk.new w2 47 #[.slice pw 8 pcw, .slice pr M1 pcr, .int .i64 na]).stays hb)
  have R3 := Lib.hid (R2.out.trans (hbx.mono hs2))
  have hs3 := R3.out.size
  clear hb hbx hw hr
  clear R2
  clear hf1 hf2
  rw [List.append_nil] at qW qR
  have c0 := B5.out.cell 0
  have c1 := B5.out.cell 1
  have c2 := B5.out.cell 2
  have zB5 : w2.heap.size < w3.heap.size := B5.out.lt
  have yB5 : ¬ w3.heap.size = w2.heap.size := by omega
  simp only [List.getElem?_toArray, List.getElem?_cons_zero, List.getElem?_cons_succ] at c0 c1 c2
  go_wp2_with fail
  refine (end_any la _ _ _ _ na M1 _ hla.out hM1.out (by omega) (pW.out.stays (by go_grown)) (pR.out.stays (by go_grown))).mono ?_
  rintro e w4 ⟨E, Ec, rfl, hv, hb⟩
  have hbx : Below w3.heap.size w3 w4 := below_via (by go_grown) hb (by first | (simp; done) | (simp; omega))
  have XA := Lib.hid (XA.out.stays hbx)
  have XB := Lib.hid (XB.out.stays hbx)
  have pW := Lib.hid (pW.out.stays hbx)
  have pR := Lib.hid (pR.out.stays hbx)
  have qW := Lib.hid (qW.out.stays hbx)
  have qR := Lib.hid (qR.out.stays hbx)
  have B5 := Lib.hid (B5.out.stays hbx)
  have EB := Lib.hid hv
  have B7 := Lib.hid ((Blk.new w3 47 #[.slice qw 8 qcw, .slice qr M1 qcr, .int .i64 na]).stays hb)
  have R4 := Lib.hid (R3.out.trans (hbx.mono hs3))
  have hs4 := R4.out.size
  clear hb hbx hv
  clear R3
  clear c0 c1 c2 zB5 yB5
  have c0 := B5.out.cell 0
  have c1 := B5.out.cell 1
  have c2 := B5.out.cell 2
  have zB5 : w2.heap.size < w4.heap.size := B5.out.lt
  have yB5 : ¬ w4.heap.size = w2.heap.size := by omega
  simp only [List.getElem?_toArray, List.getElem?_cons_zero, List.getElem?_cons_succ] at c0 c1 c2
  go_wp2_with fail
  refine (more_v la lb _ _ _ _ na M1 _ _ _ N2 M2 _ hla.out hM1.out (by omega) (by omega) pW.out pR.out XB.out hN2.out hM2.out).mono ?_
  rintro e w5 ⟨uw, ucw, ur, ucr, rfl, hw, hr, hf1, hf2, hb⟩
  have hbx : Below w4.heap.size w4 w5 := below_via (by go_grown) hb (by first | (simp; done) | (simp; omega))
  have XA := Lib.hid (XA.out.stays hbx)
  have XB := Lib.hid (XB.out.stays hbx)
  have pW := Lib.hid (pW.out.stays hbx)
  have pR := Lib.hid (pR.out.stays hbx)
  have qW := Lib.hid (qW.out.stays hbx)
  have qR := Lib.hid (qR.out.stays hbx)
  have B5 := Lib.hid (B5.out.stays hbx)
  have EB := Lib.hid (EB.out.stays hbx)
  have B7 := Lib.hid (B7.out.stays hbx)
  have uW := Lib.hid hw
  have uR := Lib.hid hr
  have R5 := Lib.hid (R4.out.trans (hbx.mono hs4))
  have hs5 := R5.out.size
  clear hb hbx hw hr
  clear R4
  clear c0 c1 c2 zB5 yB5
  clear hf1 hf2
  go_wp2_with fail
  refine (end_any (la ++ lb) _ _ _ _ N2 M2 _ hl2.out hM2.out (by omega) (uW.out.stays (by go_grown)) (uR.out.stays (by go_grown))).mono ?_
  rintro e w6 ⟨F, Fc, rfl, hv, hb⟩
  have hbx : Below w5.heap.size w5 w6 := below_via (by go_grown) hb (by first | (simp; done) | (simp; omega))
  have XA := Lib.hid (XA.out.stays hbx)
  have XB := Lib.hid (XB.out.stays hbx)
  have pW := Lib.hid (pW.out.stays hbx)
  have pR := Lib.hid (pR.out.stays hbx)
  have qW := Lib.hid (qW.out.stays hbx)
  have qR := Lib.hid (qR.out.stays hbx)
  have B5 := Lib.hid (B5.out.stays hbx)
  have EB := Lib.hid (EB.out.stays hbx)
  have B7 := Lib.hid (B7.out.stays hbx)
  have uW := Lib.hid (uW.out.stays hbx)
  have uR := Lib.hid (uR.out.stays hbx)
  have FB := Lib.hid hv
  have B11 := Lib.hid ((Blk.new w5 47 #[.slice uw 8 ucw, .slice ur M2 ucr, .int .i64 N2]).stays hb)
  have R6 := Lib.hid (R5.out.trans (hbx.mono hs5))
  have hs6 := R6.out.size
  clear hb hbx hv
  clear R5
  go_wp2_with fail
  refine (hashKnown _).mono ?_
  rintro e w7 ⟨rfl, hb⟩
  have hbx : Below w6.heap.size w6 w7 := below_via (by go_grown) hb (by first | (simp; done) | (simp; omega))
  have XA := Lib.hid (XA.out.stays hbx)
  have XB := Lib.hid (XB.out.stays hbx)
  have pW := Lib.hid (pW.out.stays hbx)
  have pR := Lib.hid (pR.out.stays hbx)
  have qW := Lib.hid (qW.out.stays hbx)
  have qR := Lib.hid (qR.out.stays hbx)
  have B5 := Lib.hid (B5.out.stays hbx)
  have EB := Lib.hid (EB.out.stays hbx)
  have B7 := Lib.hid (B7.out.stays hbx)
  have uW := Lib.hid (uW.out.stays hbx)
  have uR := Lib.hid (uR.out.stays hbx)
  have FB := Lib.hid (FB.out.stays hbx)
  have B11 := Lib.hid (B11.out.stays hbx)
  have R7 := Lib.hid (R6.out.trans (hbx.mono hs6))
  have hs7 := R7.out.size
  clear hb hbx 
  clear R6
  have c0 := B5.out.cell 0
  have c1 := B5.out.cell 1
  have c2 := B5.out.cell 2
  have zB5 : w2.heap.size < w7.heap.size := B5.out.lt
  have yB5 : ¬ w7.heap.size = w2.heap.size := by omega
  have c3 := B7.out.cell 0
  have c4 := B7.out.cell 1
  have c5 := B7.out.cell 2
  have zB7 : w3.heap.size < w7.heap.size := B7.out.lt
  have yB7 : ¬ w7.heap.size = w3.heap.size := by omega
  simp only [List.getElem?_toArray, List.getElem?_cons_zero, List.getElem?_cons_succ] at c0 c1 c2 c3 c4 c5
  go_wp2_with fail
  refine (sameState_any la _ _ _ _ na M1 _ _ _ _ _ pW.out pR.out qW.out qR.out).mono ?_
  rintro e w8 ⟨rfl, hb⟩
  have hbx : Below w7.heap.size w7 w8 := below_via (by go_grown) hb (by first | (simp; done) | (simp; omega))
  have XA := Lib.hid (XA.out.stays hbx)
  have XB := Lib.hid (XB.out.stays hbx)
  have pW := Lib.hid (pW.out.stays hbx)
  have pR := Lib.hid (pR.out.stays hbx)
  have qW := Lib.hid (qW.out.stays hbx)
  have qR := Lib.hid (qR.out.stays hbx)
  have B5 := Lib.hid (B5.out.stays hbx)
  have EB := Lib.hid (EB.out.stays hbx)
  have B7 := Lib.hid (B7.out.stays hbx)
  have uW := Lib.hid (uW.out.stays hbx)
  have uR := Lib.hid (uR.out.stays hbx)
  have FB := Lib.hid (FB.out.stays hbx)
  have B11 := Lib.hid (B11.out.stays hbx)
  have R8 := Lib.hid (R7.out.trans (hbx.mono hs7))
  have hs8 := R8.out.size
  clear hb hbx 
  clear R7
  clear c0 c1 c2 c3 c4 c5 zB5 yB5 zB7 yB7
  clear pW pR qW qR uW uR
  have c0 := B5.out.cell 0
  have c1 := B5.out.cell 1
  have c2 := B5.out.cell 2
  have zB5 : w2.heap.size < w8.heap.size := B5.out.lt
  have yB5 : ¬ w8.heap.size = w2.heap.size := by omega
  have c3 := B11.out.cell 0
  have c4 := B11.out.cell 1
  have c5 := B11.out.cell 2
  have zB11 : w5.heap.size < w8.heap.size := B11.out.lt
  have yB11 : ¬ w8.heap.size = w5.heap.size := by omega
  simp only [List.getElem?_toArray, List.getElem?_cons_zero, List.getElem?_cons_succ] at c0 c1 c2 c3 c4 c5
  have hNi : (N2 : Int) = (na : Int) + (nb : Int) := by have := hN2.out; omega
  go_wp2_with fail
  refine (refSum_any _ _ _ _ _ XA.out).mono ?_
  rintro e w9 ⟨G, Gc, rfl, hv, hb⟩
  have hbx : Below w8.heap.size w8 w9 := below_via (by go_grown) hb (by first | (simp; done) | (simp; omega))
  have XA := Lib.hid (XA.out.stays hbx)
  have XB := Lib.hid (XB.out.stays hbx)
  have B5 := Lib.hid (B5.out.stays hbx)
  have EB := Lib.hid (EB.out.stays hbx)
  have B7 := Lib.hid (B7.out.stays hbx)
  have FB := Lib.hid (FB.out.stays hbx)
  have B11 := Lib.hid (B11.out.stays hbx)
  have GB := Lib.hid (show Bytes _ _ _ _ _ from own_rd hv)
  have R9 := Lib.hid (R8.out.trans (hbx.mono hs8))
  have hs9 := R9.out.size
  clear hb hbx 
  clear R8
  clear hNi
  clear c0 c1 c2 c3 c4 c5 zB5 yB5 zB11 yB11
  go_wp2_with fail
  refine (refSame_true EB.out GB.out rfl).mono ?_
  rintro e w10 ⟨rfl, rfl⟩
  go_wp2_with fail
  refine (refJoin_any _ _ _ [la, lb] _ (lists_made2 XA.out XB.out) N2 hJ.out (by omega)).mono ?_
  rintro e w10 ⟨J, Jc, rfl, hv, hb⟩
  have hbx : Below w9.heap.size w9 w10 := below_via (by go_grown) hb (by first | (simp; done) | (simp; omega))
  have XA := Lib.hid (XA.out.stays hbx)
  have XB := Lib.hid (XB.out.stays hbx)
  have B5 := Lib.hid (B5.out.stays hbx)
  have EB := Lib.hid (EB.out.stays hbx)
  have B7 := Lib.hid (B7.out.stays hbx)
  have FB := Lib.hid (FB.out.stays hbx)
  have B11 := Lib.hid (B11.out.stays hbx)
  have GB := Lib.hid (GB.out.stays hbx)
  have JB := Lib.hid (show Bytes _ _ _ _ (la ++ lb) from (by rw [← hJ2.out]; exact own_rd hv))
  have R10 := Lib.hid (R9.out.trans (hbx.mono hs9))
  have hs10 := R10.out.size
  clear hb hbx 
  clear R9
  clear hv
  go_wp2_with fail
  refine (refSum_any _ _ _ _ _ JB.out).mono ?_
  rintro e w11 ⟨H, Hc, rfl, hv, hb⟩
  have hbx : Below w10.heap.size w10 w11 := below_via (by go_grown) hb (by first | (simp; done) | (simp; omega))
  have XA := Lib.hid (XA.out.stays hbx)
  have XB := Lib.hid (XB.out.stays hbx)
  have B5 := Lib.hid (B5.out.stays hbx)
  have EB := Lib.hid (EB.out.stays hbx)
  have B7 := Lib.hid (B7.out.stays hbx)
  have FB := Lib.hid (FB.out.stays hbx)
  have B11 := Lib.hid (B11.out.stays hbx)
  have GB := Lib.hid (GB.out.stays hbx)
  have JB := Lib.hid (JB.out.stays hbx)
  have HB := Lib.hid (show Bytes _ _ _ _ _ from own_rd hv)
  have R11 := Lib.hid (R10.out.trans (hbx.mono hs10))
  have hs11 := R11.out.size
  clear hb hbx 
  clear R10
  go_wp2_with fail
  refine (refSame_true FB.out HB.out rfl).mono ?_
  rintro e w12 ⟨rfl, rfl⟩
  go_wp2
  go_ret
  exact ⟨rfl, R11.out⟩
end Go.Proofs.Yticknkaohjkjpaa
