/- HashInParts: the walk. -/
import Derived.Test.YticknkaohjkjpaaMore
import Derived.Test.YticknkaohjkjpaaHashK
namespace Go.Proofs.Yticknkaohjkjpaa
open Go.RowKit

theorem Bytes.grown' {w w' : World} {A : Option Addr} {n c g : Nat} {l : List UInt8} (h : Bytes w A n c l) (hg : w.grownBy w' (some g)) (hne : n ≠ 0 → ∀ x, A = some x → x.block ≠ g) : Bytes w' A n c l := by
  by_cases h0 : n = 0
  · subst h0
    rw [List.eq_nil_of_length_eq_zero h.len]
    exact Bytes.nil _ _ _ h.2.2.1
  · exact h.grown hg (hne h0)
theorem Bytes.old {w : World} {A : Option Addr} {n c : Nat} {l : List UInt8} (h : Bytes w A n c l) : Bytes w (if n = 0 then none else A) n c l ∧ (n = 0 ∨ ∀ x, A = some x → x.block < w.heap.size) := by
  by_cases h0 : n = 0
  · subst h0
    refine ⟨?_, .inl rfl⟩
    rw [List.eq_nil_of_length_eq_zero h.len]
    exact Bytes.nil _ _ _ h.2.2.1
  · refine ⟨by rw [if_neg h0]; exact h, .inr fun x hx => ?_⟩
    obtain ⟨b, off, e, hc⟩ := h.at_ (i := 0) (by omega)
    rw [hx] at e
    cases e
    exact World.block_lt_of_cell? w _ hc
set_option maxRecDepth 100000 in
set_option maxHeartbeats 2000000 in
theorem hashInParts_walk (Aa : Option Addr) (na ca : Nat) (la : List UInt8) (Ab : Option Addr) (nb cb : Nat) (lb : List UInt8) (Ac : Option Addr) (nc cc : Nat) (lc : List UInt8) (w : World) (ha : Bytes w Aa na ca la) (hb : Bytes w Ab nb cb lb) (hc : Bytes w Ac nc cc lc) :
    Calls Try.prog 12 #[.slice Aa na ca, .slice Ab nb cb, .slice Ac nc cc] w fun e w' => e = .returned (.bool true) ∧ Below w.heap.size w w' := by
  have qa1 := ha.le
  have qa2 := ha.cap
  have qb1 := hb.le
  have qb2 := hb.cap
  have qc1 := hc.le
  have qc2 := hc.cap
  by_cases hna : 150 < na
  · have hnia : (na : Int) > 150 := by omega
    clear ha hb hc
    go_enter Try.func12, Try.ntmps12
    go_wp2_with fail
    refine (hashKnown _).mono ?_
    rintro e w1 ⟨rfl, hb⟩
    go_wp2
    go_ret
    exact ⟨rfl, hb⟩
  have hnia : ¬ (na : Int) > 150 := by omega
  by_cases hnb : 150 < nb
  · have hnib : (nb : Int) > 150 := by omega
    clear ha hb hc
    go_enter Try.func12, Try.ntmps12
    go_wp2_with fail
    refine (hashKnown _).mono ?_
    rintro e w1 ⟨rfl, hb⟩
    go_wp2
    go_ret
    exact ⟨rfl, hb⟩
  have hnib : ¬ (nb : Int) > 150 := by omega
  by_cases hnc : 150 < nc
  · have hnic : (nc : Int) > 150 := by omega
    clear ha hb hc
    go_enter Try.func12, Try.ntmps12
    go_wp2_with fail
    refine (hashKnown _).mono ?_
    rintro e w1 ⟨rfl, hb⟩
    go_wp2
    go_ret
    exact ⟨rfl, hb⟩
  have hnic : ¬ (nc : Int) > 150 := by omega
  have hla := Lib.hid ha.len
  have hlb := Lib.hid hb.len
  have hlc := Lib.hid hc.len
  have kXA := Lib.hid ha.old.2
  have kXB := Lib.hid hb.old.2
  have kXC := Lib.hid hc.old.2
  have XA := Lib.hid ha
  have XB := Lib.hid hb
  have XC := Lib.hid hc
  clear ha hb hc
  obtain ⟨M1, h⟩ : ∃ x, na % 64 = x := ⟨_, rfl⟩
  have hM1 := Lib.hid h
  clear h
  obtain ⟨N2, h⟩ : ∃ x, na + nb = x := ⟨_, rfl⟩
  have hN2 := Lib.hid h
  have hN2b : N2 ≤ 300 := by omega
  clear h
  obtain ⟨M2, h⟩ : ∃ x, N2 % 64 = x := ⟨_, rfl⟩
  have hM2 := Lib.hid h
  clear h
  obtain ⟨N3, h⟩ : ∃ x, N2 + nc = x := ⟨_, rfl⟩
  have hN3 := Lib.hid h
  have hN3b : N3 ≤ 450 := by omega
  clear h
  obtain ⟨M3, h⟩ : ∃ x, N3 % 64 = x := ⟨_, rfl⟩
  have hM3 := Lib.hid h
  clear h
  have hl2 : Hid ((la ++ lb).length = N2) := by unfold Hid; rw [List.length_append, hla.out, hlb.out, hN2.out]
  have hl3 : Hid ((la ++ lb ++ lc).length = N3) := by unfold Hid; rw [List.length_append, hl2.out, hlc.out, hN3.out]
  have hJ2 : Hid ([la, lb, lc].flatten = la ++ lb ++ lc) := by unfold Hid; simp
  have hJ : Hid ([la, lb, lc].flatten.length = N3) := by unfold Hid; rw [hJ2.out, hl3.out]
  go_enter Try.func12, Try.ntmps12
  go_wp2_with fail
  refine (begin_any _).mono ?_
  rintro e w1 ⟨Z, rfl, hw, hb⟩
  have hbx : Below w.heap.size w w1 := below_via (by go_grown) hb (by first | (simp; done) | (simp; omega))
  have XA := Lib.hid (XA.out.stays hbx)
  have XB := Lib.hid (XB.out.stays hbx)
  have XC := Lib.hid (XC.out.stays hbx)
  have ZW := Lib.hid hw
  have R1 := Lib.hid hbx
  have hs1 := R1.out.size
  clear hb hbx hw
  go_wp2_with fail
  refine (more_new la _ _ _ _ _ M1 _ (by omega) ZW.out XA.out hM1.out).mono ?_
  rintro e w2 ⟨pw, pcw, pr, pcr, rfl, hw, hr, hf1, hf2, hb⟩
  have hbx : Below w1.heap.size w1 w2 := below_via (by go_grown) hb (by first | (simp; done) | (simp; omega))
  have XA := Lib.hid (XA.out.stays hbx)
  have XB := Lib.hid (XB.out.stays hbx)
  have XC := Lib.hid (XC.out.stays hbx)
  have ZW := Lib.hid (ZW.out.stays hbx)
  have pW := Lib.hid hw
  have pR := Lib.hid hr
  have R2 := Lib.hid (R1.out.trans (hbx.mono hs1))
  have hs2 := R2.out.size
  clear hb hbx hw hr
  clear R1
  clear ZW
  clear hf1 hf2
  go_wp2_with fail
  refine (more_v la lb _ _ _ _ na M1 _ _ _ N2 M2 _ hla.out hM1.out (by omega) (by omega) (pW.out.stays (by go_grown)) (pR.out.stays (by go_grown)) (XB.out.stays (by go_grown)) hN2.out hM2.out).mono ?_
  rintro e w3 ⟨qw, qcw, qr, qcr, rfl, hw, hr, hf1, hf2, hb⟩
  have hbx : Below w2.heap.size w2 w3 := below_via (by go_grown) hb (by first | (simp; done) | (simp; omega))
  have XA := Lib.hid (XA.out.stays hbx)
  have XB := Lib.hid (XB.out.stays hbx)
  have XC := Lib.hid (XC.out.stays hbx)
  have pW := Lib.hid (pW.out.stays hbx)
  have pR := Lib.hid (pR.out.stays hbx)
  have qW := Lib.hid hw
  have qR := Lib.hid hr
  have B7 := Lib.hid ((Blk.new w2 47 #[.slice pw 8 pcw, .slice pr M1 pcr, .int .i64 na]).stays hb)
  have R3 := Lib.hid (R2.out.trans (hbx.mono hs2))
  have hs3 := R3.out.size
  clear hb hbx hw hr
  clear R2
  clear pW pR
  have c0 := B7.out.cell 0
  have c1 := B7.out.cell 1
  have c2 := B7.out.cell 2
  have zB7 : w2.heap.size < w3.heap.size := B7.out.lt
  have yB7 : ¬ w3.heap.size = w2.heap.size := by omega
  simp only [List.getElem?_toArray, List.getElem?_cons_zero, List.getElem?_cons_succ] at c0 c1 c2
  have f0 := B7.out.frozen 0
  have f1 := B7.out.frozen 1
  have f2 := B7.out.frozen 2
  go_upto_region 5 with fail
  have kg : w3.grownBy (((w3.setCell ⟨w2.heap.size, 0, none⟩ (.slice qw 8 qcw)).setCell ⟨w2.heap.size, 1, none⟩ (.slice qr M2 qcr)).setCell ⟨w2.heap.size, 2, none⟩ (.int .i64 N2)) (some (w2.heap.size)) := grown_put (grown_put (grown_put (World.grownBy.refl _ _) 0 _) 1 _) 2 _
  have hB := store_hs (v0 := .slice qw 8 qcw) (v1 := .slice qr M2 qcr) (v2 := .int .i64 N2) B7.out
  have kf1 : ∀ x, qw = some x → x.block ≠ w2.heap.size := fun x hx => by have := hf1 x hx; first | omega | (simp at this; omega)
  have kf2 : ∀ x, qr = some x → x.block ≠ w2.heap.size := fun x hx => by have := hf2 x hx; first | omega | (simp at this; omega)
  have hWn := Rd.grown qW.out kg kf1
  have hRn := Bytes.grown qR.out kg kf2
  have XAn := Bytes.grown' XA.out kg (fun h0 x hx => by have := (kXA.out.resolve_left h0) x hx; omega)
  have XBn := Bytes.grown' XB.out kg (fun h0 x hx => by have := (kXB.out.resolve_left h0) x hx; omega)
  have XCn := Bytes.grown' XC.out kg (fun h0 x hx => by have := (kXC.out.resolve_left h0) x hx; omega)
  have hRR := R3.out.grown kg hs3 (fun k hk => by cases hk; omega)
  clear c0 f0 c1 f1 c2 f2 zB7 yB7 hf1 hf2 kf1 kf2
  clear kg
  generalize (((w3.setCell ⟨w2.heap.size, 0, none⟩ (.slice qw 8 qcw)).setCell ⟨w2.heap.size, 1, none⟩ (.slice qr M2 qcr)).setCell ⟨w2.heap.size, 2, none⟩ (.int .i64 N2)) = v3 at *
  have qW : Hid (Words v3 qw 8 qcw _) := hWn
  have qR := Lib.hid hRn
  have B7 := Lib.hid hB
  have hlv3 : w2.heap.size < v3.heap.size := B7.out.lt
  have XA := Lib.hid XAn
  have XB := Lib.hid XBn
  have XC := Lib.hid XCn
  have R4 := Lib.hid hRR
  have hs4 := hRR.size
  clear hWn hRn hB hRR XAn XBn XCn
  have c0 := B7.out.cell 0
  have c1 := B7.out.cell 1
  have c2 := B7.out.cell 2
  have zB7 : w2.heap.size < v3.heap.size := B7.out.lt
  have yB7 : ¬ v3.heap.size = w2.heap.size := by omega
  simp only [List.getElem?_toArray, List.getElem?_cons_zero, List.getElem?_cons_succ] at c0 c1 c2
  go_wp2_with fail
  refine (more_v (la ++ lb) lc _ _ _ _ N2 M2 _ _ _ N3 M3 _ hl2.out hM2.out (by omega) (by omega) qW.out qR.out XC.out hN3.out hM3.out).mono ?_
  rintro e w5 ⟨sw, scw, sr, scr, rfl, hw, hr, hf1, hf2, hb⟩
  have hbx : Below v3.heap.size v3 w5 := below_via (by go_grown) hb (by first | (simp; done) | (simp; omega))
  have XA := Lib.hid (XA.out.stays hbx)
  have XB := Lib.hid (XB.out.stays hbx)
  have XC := Lib.hid (XC.out.stays hbx)
  have qW := Lib.hid (qW.out.stays hbx)
  have qR := Lib.hid (qR.out.stays hbx)
  have B7 := Lib.hid (B7.out.stays hbx)
  have sW := Lib.hid hw
  have sR := Lib.hid hr
  have R5 := Lib.hid (R4.out.trans (hbx.mono hs4))
  have hs5 := R5.out.size
  clear hb hbx hw hr
  clear R4
  clear qW qR
  clear c0 c1 c2 zB7 yB7
  have c0 := B7.out.cell 0
  have c1 := B7.out.cell 1
  have c2 := B7.out.cell 2
  have zB7 : w2.heap.size < w5.heap.size := B7.out.lt
  have yB7 : ¬ w5.heap.size = w2.heap.size := by omega
  simp only [List.getElem?_toArray, List.getElem?_cons_zero, List.getElem?_cons_succ] at c0 c1 c2
  have f0 := B7.out.frozen 0
  have f1 := B7.out.frozen 1
  have f2 := B7.out.frozen 2
  go_upto_region 6 with fail
  have kg : w5.grownBy (((w5.setCell ⟨w2.heap.size, 0, none⟩ (.slice sw 8 scw)).setCell ⟨w2.heap.size, 1, none⟩ (.slice sr M3 scr)).setCell ⟨w2.heap.size, 2, none⟩ (.int .i64 N3)) (some (w2.heap.size)) := grown_put (grown_put (grown_put (World.grownBy.refl _ _) 0 _) 1 _) 2 _
  have hB := store_hs (v0 := .slice sw 8 scw) (v1 := .slice sr M3 scr) (v2 := .int .i64 N3) B7.out
  have kf1 : ∀ x, sw = some x → x.block ≠ w2.heap.size := fun x hx => by have := hf1 x hx; first | omega | (simp at this; omega)
  have kf2 : ∀ x, sr = some x → x.block ≠ w2.heap.size := fun x hx => by have := hf2 x hx; first | omega | (simp at this; omega)
  have hWn := Rd.grown sW.out kg kf1
  have hRn := Bytes.grown sR.out kg kf2
  have XAn := Bytes.grown' XA.out kg (fun h0 x hx => by have := (kXA.out.resolve_left h0) x hx; omega)
  have XBn := Bytes.grown' XB.out kg (fun h0 x hx => by have := (kXB.out.resolve_left h0) x hx; omega)
  have XCn := Bytes.grown' XC.out kg (fun h0 x hx => by have := (kXC.out.resolve_left h0) x hx; omega)
  have hRR := R5.out.grown kg hs5 (fun k hk => by cases hk; omega)
  clear c0 f0 c1 f1 c2 f2 zB7 yB7 hf1 hf2 kf1 kf2
  clear kg
  generalize (((w5.setCell ⟨w2.heap.size, 0, none⟩ (.slice sw 8 scw)).setCell ⟨w2.heap.size, 1, none⟩ (.slice sr M3 scr)).setCell ⟨w2.heap.size, 2, none⟩ (.int .i64 N3)) = v5 at *
  have sW : Hid (Words v5 sw 8 scw _) := hWn
  have sR := Lib.hid hRn
  have B7 := Lib.hid hB
  have hlv5 : w2.heap.size < v5.heap.size := B7.out.lt
  have XA := Lib.hid XAn
  have XB := Lib.hid XBn
  have XC := Lib.hid XCn
  have R6 := Lib.hid hRR
  have hs6 := hRR.size
  clear hWn hRn hB hRR XAn XBn XCn
  go_wp2_with fail
  refine (begin_any _).mono ?_
  rintro e w7 ⟨Y, rfl, hw, hb⟩
  have hbx : Below v5.heap.size v5 w7 := below_via (by go_grown) hb (by first | (simp; done) | (simp; omega))
  have XA := Lib.hid (XA.out.stays hbx)
  have XB := Lib.hid (XB.out.stays hbx)
  have XC := Lib.hid (XC.out.stays hbx)
  have B7 := Lib.hid (B7.out.stays hbx)
  have sW := Lib.hid (sW.out.stays hbx)
  have sR := Lib.hid (sR.out.stays hbx)
  have YW := Lib.hid hw
  have R7 := Lib.hid (R6.out.trans (hbx.mono hs6))
  have hs7 := R7.out.size
  clear hb hbx hw
  clear R6
  go_wp2_with fail
  refine (refJoin_any _ _ _ [la, lb, lc] _ (lists_made3 XA.out XB.out XC.out) N3 hJ.out (by omega)).mono ?_
  rintro e w8 ⟨J, Jc, rfl, hv, hb⟩
  have hbx : Below w7.heap.size w7 w8 := below_via (by go_grown) hb (by first | (simp; done) | (simp; omega))
  have XA := Lib.hid (XA.out.stays hbx)
  have XB := Lib.hid (XB.out.stays hbx)
  have XC := Lib.hid (XC.out.stays hbx)
  have B7 := Lib.hid (B7.out.stays hbx)
  have sW := Lib.hid (sW.out.stays hbx)
  have sR := Lib.hid (sR.out.stays hbx)
  have YW := Lib.hid (YW.out.stays hbx)
  have JB := Lib.hid (show Bytes _ _ _ _ (la ++ lb ++ lc) from (by rw [← hJ2.out]; exact own_rd hv))
  have R8 := Lib.hid (R7.out.trans (hbx.mono hs7))
  have hs8 := R8.out.size
  clear hb hbx 
  clear R7
  clear hv
  go_wp2_with fail
  refine (more_new (la ++ lb ++ lc) _ _ _ _ _ M3 _ (by omega) YW.out JB.out hM3.out).mono ?_
  rintro e w9 ⟨tw, tcw, tr, tcr, rfl, hw, hr, hf1, hf2, hb⟩
  have hbx : Below w8.heap.size w8 w9 := below_via (by go_grown) hb (by first | (simp; done) | (simp; omega))
  have XA := Lib.hid (XA.out.stays hbx)
  have XB := Lib.hid (XB.out.stays hbx)
  have XC := Lib.hid (XC.out.stays hbx)
  have B7 := Lib.hid (B7.out.stays hbx)
  have sW := Lib.hid (sW.out.stays hbx)
  have sR := Lib.hid (sR.out.stays hbx)
  have YW := Lib.hid (YW.out.stays hbx)
  have JB := Lib.hid (JB.out.stays hbx)
  have tW := Lib.hid hw
  have tR := Lib.hid hr
  have R9 := Lib.hid (R8.out.trans (hbx.mono hs8))
  have hs9 := R9.out.size
  clear hb hbx hw hr
  clear R8
  clear YW JB
  clear hf1 hf2
  have c0 := B7.out.cell 0
  have c1 := B7.out.cell 1
  have c2 := B7.out.cell 2
  have zB7 : w2.heap.size < w9.heap.size := B7.out.lt
  have yB7 : ¬ w9.heap.size = w2.heap.size := by omega
  simp only [List.getElem?_toArray, List.getElem?_cons_zero, List.getElem?_cons_succ] at c0 c1 c2
  go_wp2_with fail
  refine (end_any (la ++ lb ++ lc) _ _ _ _ N3 M3 _ hl3.out hM3.out (by omega) (sW.out.stays (by go_grown)) (sR.out.stays (by go_grown))).mono ?_
  rintro e w10 ⟨E, Ec, rfl, hv, hb⟩
  have hbx : Below w9.heap.size w9 w10 := below_via (by go_grown) hb (by first | (simp; done) | (simp; omega))
  have XA := Lib.hid (XA.out.stays hbx)
  have XB := Lib.hid (XB.out.stays hbx)
  have XC := Lib.hid (XC.out.stays hbx)
  have B7 := Lib.hid (B7.out.stays hbx)
  have sW := Lib.hid (sW.out.stays hbx)
  have sR := Lib.hid (sR.out.stays hbx)
  have tW := Lib.hid (tW.out.stays hbx)
  have tR := Lib.hid (tR.out.stays hbx)
  have EB := Lib.hid hv
  have B11 := Lib.hid ((Blk.new w9 47 #[.slice tw 8 tcw, .slice tr M3 tcr, .int .i64 N3]).stays hb)
  have R10 := Lib.hid (R9.out.trans (hbx.mono hs9))
  have hs10 := R10.out.size
  clear hb hbx hv
  clear R9
  clear c0 c1 c2 zB7 yB7
  go_wp2_with fail
  refine (hashKnown _).mono ?_
  rintro e w11 ⟨rfl, hb⟩
  have hbx : Below w10.heap.size w10 w11 := below_via (by go_grown) hb (by first | (simp; done) | (simp; omega))
  have XA := Lib.hid (XA.out.stays hbx)
  have XB := Lib.hid (XB.out.stays hbx)
  have XC := Lib.hid (XC.out.stays hbx)
  have B7 := Lib.hid (B7.out.stays hbx)
  have sW := Lib.hid (sW.out.stays hbx)
  have sR := Lib.hid (sR.out.stays hbx)
  have tW := Lib.hid (tW.out.stays hbx)
  have tR := Lib.hid (tR.out.stays hbx)
  have EB := Lib.hid (EB.out.stays hbx)
  have B11 := Lib.hid (B11.out.stays hbx)
  have R11 := Lib.hid (R10.out.trans (hbx.mono hs10))
  have hs11 := R11.out.size
  clear hb hbx 
  clear R10
  have c0 := B7.out.cell 0
  have c1 := B7.out.cell 1
  have c2 := B7.out.cell 2
  have zB7 : w2.heap.size < w11.heap.size := B7.out.lt
  have yB7 : ¬ w11.heap.size = w2.heap.size := by omega
  simp only [List.getElem?_toArray, List.getElem?_cons_zero, List.getElem?_cons_succ] at c0 c1 c2
  go_wp2_with fail
  refine (valid_ok _ _ _ _ N3 M3 _ hM3.out (by omega)).mono ?_
  rintro e w12 ⟨rfl, hb⟩
  have hbx : Below w11.heap.size w11 w12 := below_via (by go_grown) hb (by first | (simp; done) | (simp; omega))
  have XA := Lib.hid (XA.out.stays hbx)
  have XB := Lib.hid (XB.out.stays hbx)
  have XC := Lib.hid (XC.out.stays hbx)
  have B7 := Lib.hid (B7.out.stays hbx)
  have sW := Lib.hid (sW.out.stays hbx)
  have sR := Lib.hid (sR.out.stays hbx)
  have tW := Lib.hid (tW.out.stays hbx)
  have tR := Lib.hid (tR.out.stays hbx)
  have EB := Lib.hid (EB.out.stays hbx)
  have B11 := Lib.hid (B11.out.stays hbx)
  have R12 := Lib.hid (R11.out.trans (hbx.mono hs11))
  have hs12 := R12.out.size
  clear hb hbx 
  clear R11
  clear c0 c1 c2 zB7 yB7
  have c0 := B7.out.cell 0
  have c1 := B7.out.cell 1
  have c2 := B7.out.cell 2
  have zB7 : w2.heap.size < w12.heap.size := B7.out.lt
  have yB7 : ¬ w12.heap.size = w2.heap.size := by omega
  have c3 := B11.out.cell 0
  have c4 := B11.out.cell 1
  have c5 := B11.out.cell 2
  have zB11 : w9.heap.size < w12.heap.size := B11.out.lt
  have yB11 : ¬ w12.heap.size = w9.heap.size := by omega
  simp only [List.getElem?_toArray, List.getElem?_cons_zero, List.getElem?_cons_succ] at c0 c1 c2 c3 c4 c5
  go_wp2_with fail
  refine (sameState_any (la ++ lb ++ lc) _ _ _ _ N3 M3 _ _ _ _ _ sW.out sR.out tW.out tR.out).mono ?_
  rintro e w13 ⟨rfl, hb⟩
  have hbx : Below w12.heap.size w12 w13 := below_via (by go_grown) hb (by first | (simp; done) | (simp; omega))
  have XA := Lib.hid (XA.out.stays hbx)
  have XB := Lib.hid (XB.out.stays hbx)
  have XC := Lib.hid (XC.out.stays hbx)
  have B7 := Lib.hid (B7.out.stays hbx)
  have sW := Lib.hid (sW.out.stays hbx)
  have sR := Lib.hid (sR.out.stays hbx)
  have tW := Lib.hid (tW.out.stays hbx)
  have tR := Lib.hid (tR.out.stays hbx)
  have EB := Lib.hid (EB.out.stays hbx)
  have B11 := Lib.hid (B11.out.stays hbx)
  have R13 := Lib.hid (R12.out.trans (hbx.mono hs12))
  have hs13 := R13.out.size
  clear hb hbx 
  clear R12
  clear c0 c1 c2 c3 c4 c5 zB7 yB7 zB11 yB11
  clear sW sR tW tR B7 B11
  go_wp2_with fail
  refine (refJoin_any _ _ _ [la, lb, lc] _ (lists_made3 XA.out XB.out XC.out) N3 hJ.out (by omega)).mono ?_
  rintro e w14 ⟨J2, Jc2, rfl, hv, hb⟩
  have hbx : Below w13.heap.size w13 w14 := below_via (by go_grown) hb (by first | (simp; done) | (simp; omega))
  have XA := Lib.hid (XA.out.stays hbx)
  have XB := Lib.hid (XB.out.stays hbx)
  have XC := Lib.hid (XC.out.stays hbx)
  have EB := Lib.hid (EB.out.stays hbx)
  have JB := Lib.hid (show Bytes _ _ _ _ (la ++ lb ++ lc) from (by rw [← hJ2.out]; exact own_rd hv))
  have R14 := Lib.hid (R13.out.trans (hbx.mono hs13))
  have hs14 := R14.out.size
  clear hb hbx 
  clear R13
  clear hv
  go_wp2_with fail
  refine (sum_any _ _ _ _ _ JB.out).mono ?_
  rintro e w15 ⟨F, Fc, rfl, hv, hb⟩
  have hbx : Below w14.heap.size w14 w15 := below_via (by go_grown) hb (by first | (simp; done) | (simp; omega))
  have XA := Lib.hid (XA.out.stays hbx)
  have XB := Lib.hid (XB.out.stays hbx)
  have XC := Lib.hid (XC.out.stays hbx)
  have EB := Lib.hid (EB.out.stays hbx)
  have JB := Lib.hid (JB.out.stays hbx)
  have FB := Lib.hid (show Bytes _ _ _ _ _ from own_rd hv)
  have R15 := Lib.hid (R14.out.trans (hbx.mono hs14))
  have hs15 := R15.out.size
  clear hb hbx 
  clear R14
  go_wp2_with fail
  refine (refSame_true EB.out FB.out rfl).mono ?_
  rintro e w16 ⟨rfl, rfl⟩
  go_wp2
  go_ret
  exact ⟨rfl, R15.out⟩
end Go.Proofs.Yticknkaohjkjpaa
