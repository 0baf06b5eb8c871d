/- RoughReadsBack: the walk. -/
import Derived.Test.YtbjmojajhkhekaaRgK
import Derived.Test.YtbjmojajhkhekaaRgN
namespace Go.Proofs.Ytbjmojajhkhekaa
open Go Go.RowKit

set_option maxRecDepth 100000 in
set_option maxHeartbeats 4000000 in
theorem roughReadsBack_walk (A0 : Option Addr) (n0 c0 : Nat) (l : List Int) (A1 : Option Addr) (n1 c1 : Nat) (lb : List UInt8) (w : World) (hi : Rd w 1 A0 n0 c0 (l.map (Value.int .i64))) (hb : Bytes w A1 n1 c1 lb) :
    Calls Try.prog 6 #[.slice A0 n0 c0, .slice A1 n1 c1] w fun e w' => e = .returned (.bool true) ∧ Below w.heap.size w w' := by
  have VB := Lib.hid hb
  have VI := Lib.hid hi
  have q3 := hb.le
  have q4 := hb.cap
  clear hb hi
  by_cases h21 : 2100 < n1
  ·
    have e7 : (2100 : Int) < (n1 : Int) := by omega
    go_enter Try.func6, Try.ntmps6
    go_wp2_with fail
    refine (rgKnown _).mono ?_
    rintro e y1 ⟨rfl, hb⟩
    have hbx : Below w.heap.size w y1 := below_via (by go_grown) hb (by first | (simp; done) | (simp; omega))
    have VB := Lib.hid (VB.out.stays hbx)
    have VI := Lib.hid (VI.out.stays hbx)
    have R2 := Lib.hid hbx
    have hz_y1 := R2.out.size
    clear hb hbx 
    go_wp2
    go_ret
    exact ⟨rfl, R2.out⟩
  have e7 : ¬ (2100 : Int) < (n1 : Int) := by omega
  go_enter Try.func6, Try.ntmps6
  go_wp2_with fail
  refine (made_any _ _ _ _ _ VI.out).mono ?_
  rintro e y1 ⟨mA, mm, mc, ms, rfl, h1, hms, hm8, hb⟩
  have hbx : Below w.heap.size w y1 := below_via (by go_grown) hb (by first | (simp; done) | (simp; omega))
  have VB := Lib.hid (VB.out.stays hbx)
  have VI := Lib.hid (VI.out.stays hbx)
  have VM := Lib.hid h1
  have R2 := Lib.hid hbx
  have hz_y1 := R2.out.size
  clear hb hbx h1
  have HM := Lib.hid (fun k => Nat.le_trans (hms k) (show 32 ≤ 100000 by decide))
  clear hms
  have HML := Lib.hid VM.out.len
  have hmle := VM.out.le
  have hmcap := VM.out.cap
  go_wp2_with fail
  refine (encode_any28 _ _ _ _ _ VM.out HM.out).mono ?_
  rintro e y3 ⟨EA, en, ec, rfl, h1, hb⟩
  have hbx : Below y1.heap.size y1 y3 := below_via (by go_grown) hb (by first | (simp; done) | (simp; omega))
  have VB := Lib.hid (VB.out.stays hbx)
  have VI := Lib.hid (VI.out.stays hbx)
  have VM := Lib.hid (VM.out.stays hbx)
  have VE := Lib.hid h1
  have R4 := Lib.hid (R2.out.trans (hbx.mono hz_y1))
  have hz_y3 := R4.out.size
  clear hb hbx h1 R2 hz_y1
  obtain ⟨EL, hEL⟩ : ∃ EL, (encR ms).1 = EL := ⟨_, rfl⟩
  obtain ⟨es, hes⟩ : ∃ es, (encR ms).2 = es := ⟨_, rfl⟩
  have HEL := Lib.hid hEL
  have HES := Lib.hid hes
  rw [hEL] at VE
  rw [hes]
  clear hEL hes
  by_cases hes0 : es = 0
  case neg =>
    have y1 : (es == 0) = false := by simpa using hes0
    obtain ⟨D, hD⟩ : ∃ D, decR lb = D := ⟨_, rfl⟩
    have HD := Lib.hid hD
    clear hD
    go_wp2_with fail
    refine (decode_any28 _ _ _ _ _ VB.out).mono ?_
    rintro e y5 ⟨UA, un, uc, rfl, h1, hb⟩
    have hbx : Below y3.heap.size y3 y5 := below_via (by go_grown) hb (by first | (simp; done) | (simp; omega))
    have VB := Lib.hid (VB.out.stays hbx)
    have VU := Lib.hid h1
    have R6 := Lib.hid (R4.out.trans (hbx.mono hz_y3))
    have hz_y5 := R6.out.size
    clear hb hbx h1 R4 hz_y3
    rw [HD.out] at VU ⊢
    have HUL := Lib.hid VU.out.len
    obtain ⟨e0, he0⟩ : ∃ e0, D.2 = e0 := ⟨_, rfl⟩
    have HE0 := Lib.hid he0
    rw [he0]
    clear he0
    by_cases hz : e0 = 0
    case neg =>
      have z1 : (e0 == 0) = false := by simpa using hz
      have z2 : (e0 != 0) = true := by simp [bne, z1]
      have hun : un = 0 := by
        rw [← HUL.out, ← HD.out, decR_bad (by rw [HD.out, HE0.out]; exact hz)]; rfl
      subst hun
      go_wp2_with fail
      refine (rgKnown _).mono ?_
      rintro e y7 ⟨rfl, hb⟩
      have hbx : Below y5.heap.size y5 y7 := below_via (by go_grown) hb (by first | (simp; done) | (simp; omega))
      have VB := Lib.hid (VB.out.stays hbx)
      have VU := Lib.hid (VU.out.stays hbx)
      have R8 := Lib.hid (R6.out.trans (hbx.mono hz_y5))
      have hz_y7 := R8.out.size
      clear hb hbx  R6 hz_y5
      go_wp2
      go_ret
      exact ⟨rfl, R8.out⟩
    have HBK := Lib.hid (encR_dec (b := lb) (by rw [HD.out, HE0.out]; exact hz))
    have HUB := Lib.hid (decR_few lb)
    rw [HD.out] at HBK HUB
    subst hz
    go_wp2_with fail
    refine (encode_any28 _ _ _ _ _ VU.out HUB.out).mono ?_
    rintro e y7 ⟨YA, yn, yc, rfl, h1, hb⟩
    have hbx : Below y5.heap.size y5 y7 := below_via (by go_grown) hb (by first | (simp; done) | (simp; omega))
    have VB := Lib.hid (VB.out.stays hbx)
    have VU := Lib.hid (VU.out.stays hbx)
    have VY := Lib.hid h1
    have R8 := Lib.hid (R6.out.trans (hbx.mono hz_y5))
    have hz_y7 := R8.out.size
    clear hb hbx h1 R6 hz_y5
    rw [HBK.out] at VY ⊢
    go_wp2_with fail
    refine (rgKnown _).mono ?_
    rintro e y9 ⟨rfl, hb⟩
    have hbx : Below y7.heap.size y7 y9 := below_via (by go_grown) hb (by first | (simp; done) | (simp; omega))
    have VB := Lib.hid (VB.out.stays hbx)
    have VU := Lib.hid (VU.out.stays hbx)
    have VY := Lib.hid (VY.out.stays hbx)
    have R10 := Lib.hid (R8.out.trans (hbx.mono hz_y7))
    have hz_y9 := R10.out.size
    clear hb hbx  R8 hz_y7
    go_wp2_with fail
    refine (refSame_true VY.out VB.out rfl).mono ?_
    rintro e q_ ⟨rfl, rfl⟩
    go_wp2
    go_ret
    exact ⟨rfl, R10.out⟩
  have HDE := Lib.hid (decR_enc (ts := ms) (by rw [HES.out]; exact hes0))
  rw [HEL.out] at HDE
  have hE0 := encR_0 (ts := ms) (by rw [HES.out]; exact hes0)
  have HGT := Lib.hid (goodT_of hE0.2.2.1)
  subst hes0
  clear hE0
  go_wp2_with fail
  refine (decode_any28 _ _ _ _ _ VE.out).mono ?_
  rintro e y5 ⟨PA, pn, pc, rfl, h1, hb⟩
  have hbx : Below y3.heap.size y3 y5 := below_via (by go_grown) hb (by first | (simp; done) | (simp; omega))
  have VB := Lib.hid (VB.out.stays hbx)
  have VI := Lib.hid (VI.out.stays hbx)
  have VM := Lib.hid (VM.out.stays hbx)
  have VE := Lib.hid (VE.out.stays hbx)
  have VP := Lib.hid h1
  have R6 := Lib.hid (R4.out.trans (hbx.mono hz_y3))
  have hz_y5 := R6.out.size
  clear hb hbx h1 R4 hz_y3
  rw [HDE.out] at VP ⊢
  go_wp2_with fail
  refine (sameTags_any _ _ _ _ _ _ _ _ _ VP.out VM.out).mono ?_
  rintro e y7 ⟨rfl, hb⟩
  have hbx : Below y5.heap.size y5 y7 := below_via (by go_grown) hb (by first | (simp; done) | (simp; omega))
  have VB := Lib.hid (VB.out.stays hbx)
  have VI := Lib.hid (VI.out.stays hbx)
  have VM := Lib.hid (VM.out.stays hbx)
  have VE := Lib.hid (VE.out.stays hbx)
  have VP := Lib.hid (VP.out.stays hbx)
  have R8 := Lib.hid (R6.out.trans (hbx.mono hz_y5))
  have hz_y7 := R8.out.size
  clear hb hbx  R6 hz_y5
  rw [decide_eq_true (rfl : ms = ms)]
  go_wp2_with fail
  go_loopw [10] (fun i wr => ∃ k : Nat, k ≤ mm ∧ i = .int .i64 k ∧ Below y7.heap.size y7 wr) (fun i _ => mm - (intOf i).toNat)
  case atStart => exact ⟨0, Nat.zero_le _, rfl, Below.refl _ _⟩
  case round =>
    obtain ⟨k, hk, rfl, hbr⟩ := hrel
    have RK := Lib.hid hbr
    have RW := Lib.hid (R8.out.trans (hbr.mono hz_y7))
    have hz_wr := RW.out.size
    have VB := Lib.hid (VB.out.stays hbr)
    have VM := Lib.hid (VM.out.stays hbr)
    have VP := Lib.hid (VP.out.stays hbr)
    clear hbr VE
    by_cases hkn : k < mm
    ·
      have hki : (k : Int) < (mm : Int) := by omega
      obtain ⟨bb, off, A', n', c', rfl, hc0, hc1, hy⟩ := VM.out.at_ hkn
      have HFN := Lib.hid (fnd_good HGT.out (i := k) (by rw [HML.out]; exact hkn))
      obtain ⟨nm, hnm⟩ : ∃ nm, tgN ms k = nm := ⟨_, rfl⟩
      obtain ⟨d, hd⟩ : ∃ d, tgD ms k = d := ⟨_, rfl⟩
      rw [hnm] at hc0 HFN
      rw [hd] at hy HFN
      have HY := Lib.hid hy
      have HC1 := Lib.hid hc1
      clear hy hnm hd VM hc1
      go_wp2_with fail
      refine (find_any28 _ _ _ _ nm _ VP.out HM.out).mono ?_
      rintro e y9 ⟨GA, gn, gc, rfl, h1, hb⟩
      have hbx : Below wr.heap.size wr y9 := below_via (by go_grown) hb (by first | (simp; done) | (simp; omega))
      have VP := Lib.hid (VP.out.stays hbx)
      have HY := Lib.hid (HY.out.stays hbx)
      have RK := Lib.hid (RK.out.trans (hbx.mono RK.out.size))
      have HC1 := Lib.hid (cell_stays hbx HC1.out)
      have V3 := Lib.hid h1
      have R10 := Lib.hid (RW.out.trans (hbx.mono hz_wr))
      have hz_y9 := R10.out.size
      clear hb hbx h1 RW hz_wr
      rw [HFN.out] at V3 ⊢
      clear hc0
      have hc1 := HC1.out
      go_wp2_with fail
      refine (refSame_true V3.out HY.out rfl).mono ?_
      rintro e q_ ⟨rfl, rfl⟩
      go_wp2
      go_roundw
      case rel => exact ⟨k + 1, by omega, by go_num, RK.out⟩
      case measure => simp [intOf]; omega
    obtain rfl : k = mm := by omega
    clear VM VP RK
    obtain ⟨D, hD⟩ : ∃ D, decR lb = D := ⟨_, rfl⟩
    have HD := Lib.hid hD
    clear hD
    go_wp2_with fail
    refine (decode_any28 _ _ _ _ _ VB.out).mono ?_
    rintro e y9 ⟨UA, un, uc, rfl, h1, hb⟩
    have hbx : Below wr.heap.size wr y9 := below_via (by go_grown) hb (by first | (simp; done) | (simp; omega))
    have VB := Lib.hid (VB.out.stays hbx)
    have VU := Lib.hid h1
    have R10 := Lib.hid (RW.out.trans (hbx.mono hz_wr))
    have hz_y9 := R10.out.size
    clear hb hbx h1 RW hz_wr
    rw [HD.out] at VU ⊢
    have HUL := Lib.hid VU.out.len
    obtain ⟨e0, he0⟩ : ∃ e0, D.2 = e0 := ⟨_, rfl⟩
    have HE0 := Lib.hid he0
    rw [he0]
    clear he0
    by_cases hz : e0 = 0
    case neg =>
      have z1 : (e0 == 0) = false := by simpa using hz
      have z2 : (e0 != 0) = true := by simp [bne, z1]
      have hun : un = 0 := by
        rw [← HUL.out, ← HD.out, decR_bad (by rw [HD.out, HE0.out]; exact hz)]; rfl
      subst hun
      go_wp2_with fail
      refine (rgKnown _).mono ?_
      rintro e y11 ⟨rfl, hb⟩
      have hbx : Below y9.heap.size y9 y11 := below_via (by go_grown) hb (by first | (simp; done) | (simp; omega))
      have VB := Lib.hid (VB.out.stays hbx)
      have VU := Lib.hid (VU.out.stays hbx)
      have R12 := Lib.hid (R10.out.trans (hbx.mono hz_y9))
      have hz_y11 := R12.out.size
      clear hb hbx  R10 hz_y9
      go_wp2
      go_ret
      exact ⟨rfl, R12.out⟩
    have HBK := Lib.hid (encR_dec (b := lb) (by rw [HD.out, HE0.out]; exact hz))
    have HUB := Lib.hid (decR_few lb)
    rw [HD.out] at HBK HUB
    subst hz
    go_wp2_with fail
    refine (encode_any28 _ _ _ _ _ VU.out HUB.out).mono ?_
    rintro e y11 ⟨YA, yn, yc, rfl, h1, hb⟩
    have hbx : Below y9.heap.size y9 y11 := below_via (by go_grown) hb (by first | (simp; done) | (simp; omega))
    have VB := Lib.hid (VB.out.stays hbx)
    have VU := Lib.hid (VU.out.stays hbx)
    have VY := Lib.hid h1
    have R12 := Lib.hid (R10.out.trans (hbx.mono hz_y9))
    have hz_y11 := R12.out.size
    clear hb hbx h1 R10 hz_y9
    rw [HBK.out] at VY ⊢
    go_wp2_with fail
    refine (rgKnown _).mono ?_
    rintro e y13 ⟨rfl, hb⟩
    have hbx : Below y11.heap.size y11 y13 := below_via (by go_grown) hb (by first | (simp; done) | (simp; omega))
    have VB := Lib.hid (VB.out.stays hbx)
    have VU := Lib.hid (VU.out.stays hbx)
    have VY := Lib.hid (VY.out.stays hbx)
    have R14 := Lib.hid (R12.out.trans (hbx.mono hz_y11))
    have hz_y13 := R14.out.size
    clear hb hbx  R12 hz_y11
    go_wp2_with fail
    refine (refSame_true VY.out VB.out rfl).mono ?_
    rintro e q_ ⟨rfl, rfl⟩
    go_wp2
    go_ret
    exact ⟨rfl, R14.out⟩
end Go.Proofs.Ytbjmojajhkhekaa
