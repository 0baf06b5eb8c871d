/- RoughDecodes: the walk. -/
import Derived.Test.YtbjmojajhkhekaaRgK
import Derived.Test.YtbjmojajhkhekaaRgN
import Derived.Test.YtbjmojajhkhekaaFlip
namespace Go.Proofs.Ytbjmojajhkhekaa
open Go Go.RowKit

set_option maxRecDepth 100000 in
set_option maxHeartbeats 4000000 in
theorem roughDecodes_walk (A0 : Option Addr) (n0 c0 : Nat) (lb : List UInt8) (A1 : Option Addr) (n1 c1 : Nat) (l : List Int) (a2 a3 a4 : Int) (w : World) (hb : Bytes w A0 n0 c0 lb) (hi : Rd w 1 A1 n1 c1 (l.map (Value.int .i64))) :
    Calls Try.prog 9 #[.slice A0 n0 c0, .slice A1 n1 c1, .int .i64 a2, .int .i64 a3, .int .i64 a4] w fun e w' => e = .returned (.bool true) ∧ Below w.heap.size w w' := by
  have VB := Lib.hid hb
  have VI := Lib.hid hi
  have q3 := hb.le
  have q4 := hb.cap
  clear hb hi
  by_cases h21 : 2100 < n0
  ·
    have e7 : (2100 : Int) < (n0 : Int) := by omega
    go_enter Try.func9, Try.ntmps9
    go_wp2_with fail
    refine (rgKnown _).mono ?_
    rintro e y1 ⟨rfl, hb⟩
    have hbx : Below w.heap.size w y1 := below_via (by go_grown) hb (by first | (simp; done) | (simp; omega))
    have VB := Lib.hid (VB.out.stays hbx)
    have VI := Lib.hid (VI.out.stays hbx)
    have R2 := Lib.hid hbx
    have hz_y1 := R2.out.size
    clear hb hbx 
    go_wp2
    go_ret
    exact ⟨rfl, R2.out⟩
  have e7 : ¬ (2100 : Int) < (n0 : Int) := by omega
  go_enter Try.func9, Try.ntmps9
  go_wp2_with fail
  refine (made_any _ _ _ _ _ VI.out).mono ?_
  rintro e y1 ⟨mA, mm, mc, ms, rfl, h1, hms, hm8, hb⟩
  have hbx : Below w.heap.size w y1 := below_via (by go_grown) hb (by first | (simp; done) | (simp; omega))
  have VB := Lib.hid (VB.out.stays hbx)
  have VI := Lib.hid (VI.out.stays hbx)
  have VM := Lib.hid h1
  have R2 := Lib.hid hbx
  have hz_y1 := R2.out.size
  clear hb hbx h1
  have HM := Lib.hid (fun k => Nat.le_trans (hms k) (show 32 ≤ 100000 by decide))
  clear hms
  go_wp2_with fail
  refine (refEncode_any28 _ _ _ _ _ VM.out HM.out).mono ?_
  rintro e y3 ⟨EA, en, ec, rfl, h1, hb⟩
  have hbx : Below y1.heap.size y1 y3 := below_via (by go_grown) hb (by first | (simp; done) | (simp; omega))
  have VB := Lib.hid (VB.out.stays hbx)
  have VI := Lib.hid (VI.out.stays hbx)
  have VM := Lib.hid (VM.out.stays hbx)
  have VE := Lib.hid h1
  have R4 := Lib.hid (R2.out.trans (hbx.mono hz_y1))
  have hz_y3 := R4.out.size
  clear hb hbx h1 R2 hz_y1
  have hen2 := encR_len ms
  have hel := VE.out.len
  have hle := VE.out.le
  have hcap := VE.out.cap
  obtain ⟨EL, hEL⟩ : ∃ EL, (encR ms).1 = EL := ⟨_, rfl⟩
  rw [hEL] at VE hel hen2
  have hen : en ≤ 2048 := by omega
  obtain ⟨es, hes⟩ : ∃ es, (encR ms).2 = es := ⟨_, rfl⟩
  rw [hes]
  clear hEL hen2 hes VM
  obtain ⟨FL, hfl, HFLc⟩ := flip_any y3 EL en hel (by omega) a2 a3
  have HFC := Lib.hid HFLc
  clear HFLc
  go_wp2_with fail
  refine (HFC.out _ _ _ VE.out).mono ?_
  rintro e y5 ⟨FA, fc, rfl, h1, hfr, hb⟩
  have hbx : Below y3.heap.size y3 y5 := below_via (by go_grown) hb (by first | (simp; done) | (simp; omega))
  have VB := Lib.hid (VB.out.stays hbx)
  have VI := Lib.hid (VI.out.stays hbx)
  have VE := Lib.hid (VE.out.stays hbx)
  have VF := Lib.hid h1
  have R6 := Lib.hid (R4.out.trans (hbx.mono hz_y3))
  have hz_y5 := R6.out.size
  clear hb hbx h1 R4 hz_y3
  clear hfr
  obtain ⟨e1, he1⟩ : ∃ e1 : Nat, (en : Int) + 1 = (e1 : Int) := ⟨en + 1, by omega⟩
  obtain ⟨qc, hqc⟩ : ∃ qc : Nat, a4 % (e1 : Int) = (qc : Int) := ⟨(a4 % (e1 : Int)).toNat, by have := Int.emod_nonneg a4 (show (e1 : Int) ≠ 0 by omega); omega⟩
  have hqe : qc ≤ en := by have := Int.emod_lt_of_pos a4 (show (0 : Int) < (e1 : Int) by omega); omega
  have HQC := Lib.hid hqc
  have hqci : (qc : Int) ≤ (ec : Int) := by omega
  clear hqc
  go_wp2_with fail
  refine (within_any a4 e1 (by omega) (by omega) _).mono ?_
  rintro e q_ ⟨rfl, rfl⟩
  rw [HQC.out]
  have VC := Lib.hid (VE.out.cutTo qc hqe)
  obtain ⟨yb, hyb⟩ : ∃ yb, y5.heap.size = yb := ⟨_, rfl⟩
  have BL0 := Lib.hid (show Blk (y5.alloc (.cells #[.slice A0 n0 c0, .slice EA en ec, .slice FA en fc, .slice EA qc ec] 28)) yb 28 #[.slice A0 n0 c0, .slice EA en ec, .slice FA en fc, .slice EA qc ec] by rw [← hyb]; exact Blk.new _ _ _)
  have HYB := Lib.hid hyb
  clear hyb
  go_wp2_with fail
  try rw [HYB.out]
  go_loopw [48] (fun i wr => ∃ k : Nat, k ≤ 4 ∧ i = .int .i64 k ∧ Hid (Blk wr yb 28 #[.slice A0 n0 c0, .slice EA en ec, .slice FA en fc, .slice EA qc ec]) ∧ Below y5.heap.size y5 wr) (fun i _ => 4 - (intOf i).toNat)
  case atStart => exact ⟨0, by decide, rfl, BL0.out, below_alloc1 _ _⟩
  case round =>
    obtain ⟨k, hk, rfl, BL, hbr⟩ := hrel
    have RK := Lib.hid hbr
    have RW := Lib.hid (R6.out.trans (hbr.mono hz_y5))
    have hz_wr := RW.out.size
    have VB := Lib.hid (VB.out.stays hbr)
    have VE := Lib.hid (VE.out.stays hbr)
    have VF := Lib.hid (VF.out.stays hbr)
    have VC := Lib.hid (VC.out.stays hbr)
    clear hbr BL0
    by_cases hk2 : k < 4
    ·
      have hki : (k : Int) < 4 := by omega
      obtain ⟨Ax, nx, cx, lx, hkL, hvx⟩ : ∃ (Ax : Option Addr) (nx cx : Nat) (lx : List UInt8), wr.cell? ⟨yb, k, none⟩ = some (.slice Ax nx cx) ∧ Bytes wr Ax nx cx lx := by
        match k, hk2 with
        | 0, _ => exact ⟨A0, n0, c0, _, BL.out.cell 0, VB.out⟩
        | 1, _ => exact ⟨EA, en, ec, _, BL.out.cell 1, VE.out⟩
        | 2, _ => exact ⟨FA, en, fc, _, BL.out.cell 2, VF.out⟩
        | 3, _ => exact ⟨EA, qc, ec, _, BL.out.cell 3, VC.out⟩
      have VX := Lib.hid hvx
      clear hvx VB VE VF VC
      obtain ⟨D, hD⟩ : ∃ D, decR lx = D := ⟨_, rfl⟩
      have HD := Lib.hid hD
      obtain ⟨N, hN⟩ : ∃ N, nncR lx = N := ⟨_, rfl⟩
      have HN := Lib.hid hN
      clear hD hN
      go_wp2_with fail
      refine (decode_any28 _ _ _ _ _ VX.out).mono ?_
      rintro e y7 ⟨GA, gn, gc, rfl, h1, hb⟩
      have hbx : Below wr.heap.size wr y7 := below_via (by go_grown) hb (by first | (simp; done) | (simp; omega))
      have VX := Lib.hid (VX.out.stays hbx)
      have BL := Lib.hid (BL.out.stays hbx)
      have RK := Lib.hid (RK.out.trans (hbx.mono RK.out.size))
      have V1 := Lib.hid h1
      have R8 := Lib.hid (RW.out.trans (hbx.mono hz_wr))
      have hz_y7 := R8.out.size
      clear hb hbx h1 RW hz_wr
      rw [HD.out] at V1 ⊢
      go_wp2_with fail
      refine (refDecode_any28 _ _ _ _ _ VX.out).mono ?_
      rintro e y9 ⟨HA, hn, hc, rfl, h1, hb⟩
      have hbx : Below y7.heap.size y7 y9 := below_via (by go_grown) hb (by first | (simp; done) | (simp; omega))
      have VX := Lib.hid (VX.out.stays hbx)
      have BL := Lib.hid (BL.out.stays hbx)
      have RK := Lib.hid (RK.out.trans (hbx.mono RK.out.size))
      have V1 := Lib.hid (V1.out.stays hbx)
      have V2 := Lib.hid h1
      have R10 := Lib.hid (R8.out.trans (hbx.mono hz_y7))
      have hz_y9 := R10.out.size
      clear hb hbx h1 R8 hz_y7
      rw [HD.out] at V2 ⊢
      go_wp2_with fail
      refine (nonce_any _ _ _ _ _ VX.out).mono ?_
      rintro e y11 ⟨IA, in_, ic, rfl, h1, hb⟩
      have hbx : Below y9.heap.size y9 y11 := below_via (by go_grown) hb (by first | (simp; done) | (simp; omega))
      have VX := Lib.hid (VX.out.stays hbx)
      have BL := Lib.hid (BL.out.stays hbx)
      have RK := Lib.hid (RK.out.trans (hbx.mono RK.out.size))
      have V1 := Lib.hid (V1.out.stays hbx)
      have V2 := Lib.hid (V2.out.stays hbx)
      have V3 := Lib.hid h1
      have R12 := Lib.hid (R10.out.trans (hbx.mono hz_y9))
      have hz_y11 := R12.out.size
      clear hb hbx h1 R10 hz_y9
      rw [HN.out] at V3 ⊢
      go_wp2_with fail
      refine (refNonce_any _ _ _ _ _ VX.out).mono ?_
      rintro e y13 ⟨JA, jn, jc, rfl, h1, hb⟩
      have hbx : Below y11.heap.size y11 y13 := below_via (by go_grown) hb (by first | (simp; done) | (simp; omega))
      have VX := Lib.hid (VX.out.stays hbx)
      have BL := Lib.hid (BL.out.stays hbx)
      have RK := Lib.hid (RK.out.trans (hbx.mono RK.out.size))
      have V1 := Lib.hid (V1.out.stays hbx)
      have V2 := Lib.hid (V2.out.stays hbx)
      have V3 := Lib.hid (V3.out.stays hbx)
      have V4 := Lib.hid h1
      have R14 := Lib.hid (R12.out.trans (hbx.mono hz_y11))
      have hz_y13 := R14.out.size
      clear hb hbx h1 R12 hz_y11
      rw [HN.out] at V4 ⊢
      obtain ⟨s1, hs1⟩ : ∃ s1, D.2 = s1 := ⟨_, rfl⟩
      obtain ⟨s2, hs2⟩ : ∃ s2, N.2 = s2 := ⟨_, rfl⟩
      rw [hs1, hs2]
      have z1 : (s1 != s1) = false := by simp [bne]
      have z2 : (s2 != s2) = false := by simp [bne]
      clear hs1 hs2
      go_wp2_with fail
      refine (sameTags_any _ _ _ _ _ _ _ _ _ V1.out V2.out).mono ?_
      rintro e y15 ⟨rfl, hb⟩
      have hbx : Below y13.heap.size y13 y15 := below_via (by go_grown) hb (by first | (simp; done) | (simp; omega))
      have VX := Lib.hid (VX.out.stays hbx)
      have BL := Lib.hid (BL.out.stays hbx)
      have RK := Lib.hid (RK.out.trans (hbx.mono RK.out.size))
      have V1 := Lib.hid (V1.out.stays hbx)
      have V2 := Lib.hid (V2.out.stays hbx)
      have V3 := Lib.hid (V3.out.stays hbx)
      have V4 := Lib.hid (V4.out.stays hbx)
      have R16 := Lib.hid (R14.out.trans (hbx.mono hz_y13))
      have hz_y15 := R16.out.size
      clear hb hbx  R14 hz_y13
      rw [decide_eq_true (rfl : D.1 = D.1)]
      go_wp2_with fail
      refine (refSame_true V3.out V4.out rfl).mono ?_
      rintro e q_ ⟨rfl, rfl⟩
      go_wp2
      go_roundw
      case rel => exact ⟨k + 1, by omega, by go_num, BL, RK.out⟩
      case measure => simp [intOf]; omega
    obtain rfl : k = 4 := by omega
    go_wp2_with fail
    refine (rgKnown _).mono ?_
    rintro e y7 ⟨rfl, hb⟩
    have hbx : Below wr.heap.size wr y7 := below_via (by go_grown) hb (by first | (simp; done) | (simp; omega))
    have R8 := Lib.hid (RW.out.trans (hbx.mono hz_wr))
    have hz_y7 := R8.out.size
    clear hb hbx  RW hz_wr
    go_wp2
    go_ret
    exact ⟨rfl, R8.out⟩
end Go.Proofs.Ytbjmojajhkhekaa
