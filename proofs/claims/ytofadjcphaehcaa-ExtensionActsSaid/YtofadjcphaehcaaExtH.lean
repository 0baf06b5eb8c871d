/- ExtensionActs: the walk. -/
import Derived.Test.YtofadjcphaehcaaExtG
namespace Go.Proofs.Ytofadjcphaehcaa
open Go.RowKit

def lt2 (n : Nat) : Prop := ¬ (700 < n ∧ n < 1200 ∨ 1300 < n)
set_option maxRecDepth 100000 in
set_option maxHeartbeats 4000000 in
theorem extensionActs_walk (A0 : Option Addr) (n0 c0 : Nat) (fs : List (Int × List UInt8)) (A1 : Option Addr) (n1 c1 : Nat) (lb : List UInt8) (kd : Int) (A3 : Option Addr) (n3 c3 : Nat) (gs : List (Int × List UInt8)) (w : World) (hl : FldL w A0 n0 c0 fs) (hb : Bytes w A1 n1 c1 lb) (hm : FldL w A3 n3 c3 gs) :
    Calls Try.prog 13 #[.slice A0 n0 c0, .slice A1 n1 c1, .int .i64 kd, .slice A3 n3 c3] w fun e w' => e = .returned (.bool true) ∧ Below w.heap.size w w' := by
  have VL := Lib.hid hl
  have VM := Lib.hid hm
  have VB := Lib.hid hb
  have q1 := hl.le
  have q2 := hl.cap
  have q3 := hb.le
  have q4 := hb.cap
  have HLl := Lib.hid hl.len
  clear hl hm hb
  obtain ⟨gl, hgl⟩ : ∃ gl, decide (lightX fs) = gl := ⟨_, rfl⟩
  obtain ⟨gm, hgm⟩ : ∃ gm, decide (lightX gs) = gm := ⟨_, rfl⟩
  have HGL := Lib.hid hgl
  have HGM := Lib.hid hgm
  clear hgl hgm
  go_enter Try.func13, Try.ntmps13
  go_wp2_with fail
  refine (light_any _ _ _ _ _ VL.out).mono ?_
  rintro e y1 ⟨rfl, hb⟩
  have hbx : Below w.heap.size w y1 := below_via (by go_grown) hb (by first | (simp; done) | (simp; omega))
  have VL := Lib.hid (VL.out.stays hbx)
  have VM := Lib.hid (VM.out.stays hbx)
  have VB := Lib.hid (VB.out.stays hbx)
  have R2 := Lib.hid hbx
  have hz_y1 := R2.out.size
  clear hb hbx 
  rw [HGL.out]
  cases gl with
  | false =>
    go_wp2_with fail
    refine (extKnown _).mono ?_
    rintro e y3 ⟨rfl, hb⟩
    have hbx : Below y1.heap.size y1 y3 := below_via (by go_grown) hb (by first | (simp; done) | (simp; omega))
    have VL := Lib.hid (VL.out.stays hbx)
    have VM := Lib.hid (VM.out.stays hbx)
    have VB := Lib.hid (VB.out.stays hbx)
    have R4 := Lib.hid (R2.out.trans (hbx.mono hz_y1))
    have hz_y3 := R4.out.size
    clear hb hbx  R2 hz_y1
    go_wp2
    go_ret
    exact ⟨rfl, R4.out⟩
  | true =>
    go_wp2_with fail
    refine (light_any _ _ _ _ _ VM.out).mono ?_
    rintro e y3 ⟨rfl, hb⟩
    have hbx : Below y1.heap.size y1 y3 := below_via (by go_grown) hb (by first | (simp; done) | (simp; omega))
    have VL := Lib.hid (VL.out.stays hbx)
    have VM := Lib.hid (VM.out.stays hbx)
    have VB := Lib.hid (VB.out.stays hbx)
    have R4 := Lib.hid (R2.out.trans (hbx.mono hz_y1))
    have hz_y3 := R4.out.size
    clear hb hbx  R2 hz_y1
    rw [HGM.out]
    cases gm with
    | false =>
      go_wp2_with fail
      refine (extKnown _).mono ?_
      rintro e y5 ⟨rfl, hb⟩
      have hbx : Below y3.heap.size y3 y5 := below_via (by go_grown) hb (by first | (simp; done) | (simp; omega))
      have VL := Lib.hid (VL.out.stays hbx)
      have VM := Lib.hid (VM.out.stays hbx)
      have VB := Lib.hid (VB.out.stays hbx)
      have R6 := Lib.hid (R4.out.trans (hbx.mono hz_y3))
      have hz_y5 := R6.out.size
      clear hb hbx  R4 hz_y3
      go_wp2
      go_ret
      exact ⟨rfl, R6.out⟩
    | true =>
      have HLX := Lib.hid (show lightX fs from of_decide_eq_true HGL.out)
      by_cases hbl : lt2 n1
      case neg =>
        by_cases h70 : 700 < n1 ∧ n1 < 1200
        ·
          have e1 : (700 : Int) < (n1 : Int) := by omega
          have e2 : (n1 : Int) < 1200 := by omega
          go_wp2_with fail
          refine (extKnown _).mono ?_
          rintro e y5 ⟨rfl, hb⟩
          have hbx : Below y3.heap.size y3 y5 := below_via (by go_grown) hb (by first | (simp; done) | (simp; omega))
          have VL := Lib.hid (VL.out.stays hbx)
          have VM := Lib.hid (VM.out.stays hbx)
          have VB := Lib.hid (VB.out.stays hbx)
          have R6 := Lib.hid (R4.out.trans (hbx.mono hz_y3))
          have hz_y5 := R6.out.size
          clear hb hbx  R4 hz_y3
          go_wp2
          go_ret
          exact ⟨rfl, R6.out⟩
        have h13 : 1300 < n1 := by unfold lt2 at hbl; omega
        have e1 : (700 : Int) < (n1 : Int) := by omega
        have e2 : ¬ (n1 : Int) < 1200 := by omega
        have e3 : (1300 : Int) < (n1 : Int) := by omega
        go_wp2_with fail
        refine (extKnown _).mono ?_
        rintro e y5 ⟨rfl, hb⟩
        have hbx : Below y3.heap.size y3 y5 := below_via (by go_grown) hb (by first | (simp; done) | (simp; omega))
        have VL := Lib.hid (VL.out.stays hbx)
        have VM := Lib.hid (VM.out.stays hbx)
        have VB := Lib.hid (VB.out.stays hbx)
        have R6 := Lib.hid (R4.out.trans (hbx.mono hz_y3))
        have hz_y5 := R6.out.size
        clear hb hbx  R4 hz_y3
        go_wp2
        go_ret
        exact ⟨rfl, R6.out⟩
      have hb13 : n1 ≤ 1300 := by unfold lt2 at hbl; omega
      have hb7 : n1 ≤ 700 ∨ 1200 ≤ n1 := by unfold lt2 at hbl; omega
      clear hbl
      have e3 : ¬ (1300 : Int) < (n1 : Int) := by omega
      have hn30 : n0 ≤ 30 := by rw [← HLl.out]; exact HLX.out.1
      have hz2 : (700 : Int) < (n1 : Int) ∧ ¬ (n1 : Int) < 1200 ∨ ¬ (700 : Int) < (n1 : Int) := by omega
      clear hb7
      rcases hz2 with ⟨e1, e2⟩ | e1
      all_goals
        go_wp2_with fail
        go_loopw [9] (fun i wr => ∃ k : Nat, k ≤ n0 ∧ i = .int .i64 k ∧ Below y3.heap.size y3 wr) (fun i _ => n0 - (intOf i).toNat)
        case atStart => exact ⟨0, Nat.zero_le _, rfl, Below.refl _ _⟩
        case round =>
          obtain ⟨k, hk, rfl, hbr⟩ := hrel
          have RW := Lib.hid (R4.out.trans (hbr.mono hz_y3))
          have hz_wr := RW.out.size
          have RK := Lib.hid hbr
          have VL := Lib.hid (VL.out.stays hbr)
          have VM := Lib.hid (VM.out.stays hbr)
          have VB := Lib.hid (VB.out.stays hbr)
          clear hbr
          by_cases hkn : k < n0
          ·
            have hki : (k : Int) < (n0 : Int) := by omega
            obtain ⟨bb, off, A', n', c', rfl, hc0, hc1, hy⟩ := VL.out.at_ hkn
            have HY := Lib.hid hy
            have HYL := Lib.hid hy.len
            have hyn : n' ≤ 1300 := by rw [← hy.len]; exact HLX.out.le k
            generalize fldT fs k = t at hc0
            generalize fldD fs k = d at HY HYL
            clear hy
            obtain ⟨sz, hsz⟩ : ∃ sz, (sizeX (t, d)).1 = sz := ⟨_, rfl⟩
            obtain ⟨er, her⟩ : ∃ er, (sizeX (t, d)).2 = er := ⟨_, rfl⟩
            have HSZ := Lib.hid hsz
            have HER := Lib.hid her
            clear hsz her
            go_wp2_with fail
            refine (sizeE_any t A' n' c' d _ HYL.out (by omega)).mono ?_
            rintro e y5 ⟨rfl, hb⟩
            have hbx : Below wr.heap.size wr y5 := below_via (by go_grown) hb (by first | (simp; done) | (simp; omega))
            have HBX1 := Lib.hid hbx
            have HY := Lib.hid (HY.out.stays hbx)
            have RK := Lib.hid (RK.out.trans (hbx.mono RK.out.size))
            have R6 := Lib.hid (RW.out.trans (hbx.mono hz_wr))
            have hz_y5 := R6.out.size
            clear hb hbx  RW hz_wr
            rw [HSZ.out, HER.out]
            have hc0 := cell_stays HBX1.out hc0
            have hc1 := cell_stays HBX1.out hc1
            go_wp2_with fail
            refine (refSizeE_any t A' n' c' d _ HYL.out (by omega)).mono ?_
            rintro e y7 ⟨rfl, hb⟩
            have hbx : Below y5.heap.size y5 y7 := below_via (by go_grown) hb (by first | (simp; done) | (simp; omega))
            have HY := Lib.hid (HY.out.stays hbx)
            have RK := Lib.hid (RK.out.trans (hbx.mono RK.out.size))
            have R8 := Lib.hid (R6.out.trans (hbx.mono hz_y5))
            have hz_y7 := R8.out.size
            clear hb hbx  R6 hz_y5
            rw [HSZ.out, HER.out]
            have ee : (er == er) = true := by simp
            have ee2 : (er != er) = false := by simp [bne]
            have ez2 : ((sz : Int) != (sz : Int)) = false := by simp [bne]
            go_wp2
            go_roundw
            case rel => exact ⟨k + 1, by omega, by go_num, RK.out⟩
            case measure => simp [intOf]; omega
          obtain rfl : k = n0 := by omega
          clear RK hkn
          have HF := Lib.hid (show ∀ k, (fldD fs k).length ≤ 100000 from fun k => Nat.le_trans (HLX.out.le k) (by decide))
          obtain ⟨EN, hEN⟩ : ∃ EN, encodeX fs = EN := ⟨_, rfl⟩
          have HEN := Lib.hid hEN
          obtain ⟨RD, hRD⟩ : ∃ RD, readX lb = RD := ⟨_, rfl⟩
          have HRD := Lib.hid hRD
          clear hEN hRD
          go_wp2_with fail
          refine (encode_any _ _ _ _ _ VL.out HF.out).mono ?_
          rintro e y5 ⟨EA, en, ec, rfl, h1, hb⟩
          have hbx : Below wr.heap.size wr y5 := below_via (by go_grown) hb (by first | (simp; done) | (simp; omega))
          have VL := Lib.hid (VL.out.stays hbx)
          have VM := Lib.hid (VM.out.stays hbx)
          have VB := Lib.hid (VB.out.stays hbx)
          have EE := Lib.hid h1
          have R6 := Lib.hid (RW.out.trans (hbx.mono hz_wr))
          have hz_y5 := R6.out.size
          clear hb hbx h1 RW hz_wr
          rw [HEN.out] at EE ⊢
          go_wp2_with fail
          refine (refEncode_any _ _ _ _ _ VL.out HF.out (by omega)).mono ?_
          rintro e y7 ⟨FA, fn, fc, rfl, h1, hb⟩
          have hbx : Below y5.heap.size y5 y7 := below_via (by go_grown) hb (by first | (simp; done) | (simp; omega))
          have VL := Lib.hid (VL.out.stays hbx)
          have VM := Lib.hid (VM.out.stays hbx)
          have VB := Lib.hid (VB.out.stays hbx)
          have EE := Lib.hid (EE.out.stays hbx)
          have FF := Lib.hid h1
          have R8 := Lib.hid (R6.out.trans (hbx.mono hz_y5))
          have hz_y7 := R8.out.size
          clear hb hbx h1 R6 hz_y5
          rw [HEN.out] at FF ⊢
          go_wp2_with fail
          refine (decode_any _ _ _ _ _ VB.out).mono ?_
          rintro e y9 ⟨GA, gn, gc, rfl, h1, hb⟩
          have hbx : Below y7.heap.size y7 y9 := below_via (by go_grown) hb (by first | (simp; done) | (simp; omega))
          have VL := Lib.hid (VL.out.stays hbx)
          have VM := Lib.hid (VM.out.stays hbx)
          have VB := Lib.hid (VB.out.stays hbx)
          have EE := Lib.hid (EE.out.stays hbx)
          have FF := Lib.hid (FF.out.stays hbx)
          have GG := Lib.hid h1
          have R10 := Lib.hid (R8.out.trans (hbx.mono hz_y7))
          have hz_y9 := R10.out.size
          clear hb hbx h1 R8 hz_y7
          rw [HRD.out] at GG ⊢
          go_wp2_with fail
          refine (refDecode_any _ _ _ _ _ VB.out).mono ?_
          rintro e y11 ⟨HA, hn, hc, rfl, h1, hb⟩
          have hbx : Below y9.heap.size y9 y11 := below_via (by go_grown) hb (by first | (simp; done) | (simp; omega))
          have VL := Lib.hid (VL.out.stays hbx)
          have VM := Lib.hid (VM.out.stays hbx)
          have VB := Lib.hid (VB.out.stays hbx)
          have EE := Lib.hid (EE.out.stays hbx)
          have FF := Lib.hid (FF.out.stays hbx)
          have GG := Lib.hid (GG.out.stays hbx)
          have HH := Lib.hid h1
          have R12 := Lib.hid (R10.out.trans (hbx.mono hz_y9))
          have hz_y11 := R12.out.size
          clear hb hbx h1 R10 hz_y9
          rw [HRD.out] at HH ⊢
          go_wp2_with fail
          refine (places_any _ _ _ _ _ VB.out).mono ?_
          rintro e y13 ⟨PA, pn, pc, rfl, h1, hb⟩
          have hbx : Below y11.heap.size y11 y13 := below_via (by go_grown) hb (by first | (simp; done) | (simp; omega))
          have VL := Lib.hid (VL.out.stays hbx)
          have VM := Lib.hid (VM.out.stays hbx)
          have VB := Lib.hid (VB.out.stays hbx)
          have EE := Lib.hid (EE.out.stays hbx)
          have FF := Lib.hid (FF.out.stays hbx)
          have GG := Lib.hid (GG.out.stays hbx)
          have HH := Lib.hid (HH.out.stays hbx)
          have PP := Lib.hid h1
          have R14 := Lib.hid (R12.out.trans (hbx.mono hz_y11))
          have hz_y13 := R14.out.size
          clear hb hbx h1 R12 hz_y11
          rw [HRD.out] at PP ⊢
          go_wp2_with fail
          refine (refPlaces_any _ _ _ _ _ VB.out).mono ?_
          rintro e y15 ⟨QA, qn, qc, rfl, h1, hb⟩
          have hbx : Below y13.heap.size y13 y15 := below_via (by go_grown) hb (by first | (simp; done) | (simp; omega))
          have VL := Lib.hid (VL.out.stays hbx)
          have VM := Lib.hid (VM.out.stays hbx)
          have VB := Lib.hid (VB.out.stays hbx)
          have EE := Lib.hid (EE.out.stays hbx)
          have FF := Lib.hid (FF.out.stays hbx)
          have GG := Lib.hid (GG.out.stays hbx)
          have HH := Lib.hid (HH.out.stays hbx)
          have PP := Lib.hid (PP.out.stays hbx)
          have QQ := Lib.hid h1
          have R16 := Lib.hid (R14.out.trans (hbx.mono hz_y13))
          have hz_y15 := R16.out.size
          clear hb hbx h1 R14 hz_y13
          rw [HRD.out] at QQ ⊢
          obtain ⟨e1, he1⟩ : ∃ e1, EN.2 = e1 := ⟨_, rfl⟩
          obtain ⟨e2, he2⟩ : ∃ e2, RD.1 = e2 := ⟨_, rfl⟩
          rw [he1, he2]
          clear he1 he2
          have ee1 : (e1 == e1) = true := by simp
          have ee2 : (e2 == e2) = true := by simp
          obtain ⟨sq, hsq⟩ : ∃ sq, decide (fs = gs) = sq := ⟨_, rfl⟩
          have HSQ := Lib.hid hsq
          clear hsq
          have esq : (sq == sq) = true := by simp
          go_wp2_with fail
          refine (extKnown _).mono ?_
          rintro e y17 ⟨rfl, hb⟩
          have hbx : Below y15.heap.size y15 y17 := below_via (by go_grown) hb (by first | (simp; done) | (simp; omega))
          have VL := Lib.hid (VL.out.stays hbx)
          have VM := Lib.hid (VM.out.stays hbx)
          have VB := Lib.hid (VB.out.stays hbx)
          have EE := Lib.hid (EE.out.stays hbx)
          have FF := Lib.hid (FF.out.stays hbx)
          have GG := Lib.hid (GG.out.stays hbx)
          have HH := Lib.hid (HH.out.stays hbx)
          have PP := Lib.hid (PP.out.stays hbx)
          have QQ := Lib.hid (QQ.out.stays hbx)
          have R18 := Lib.hid (R16.out.trans (hbx.mono hz_y15))
          have hz_y17 := R18.out.size
          clear hb hbx  R16 hz_y15
          go_wp2_with fail
          refine (refSame_true EE.out FF.out rfl).mono ?_
          rintro e q_ ⟨rfl, rfl⟩
          go_wp2_with fail
          refine (sameFields_true GG.out HH.out rfl).mono ?_
          rintro e y19 ⟨rfl, hb⟩
          have hbx : Below y17.heap.size y17 y19 := below_via (by go_grown) hb (by first | (simp; done) | (simp; omega))
          have VL := Lib.hid (VL.out.stays hbx)
          have VM := Lib.hid (VM.out.stays hbx)
          have VB := Lib.hid (VB.out.stays hbx)
          have EE := Lib.hid (EE.out.stays hbx)
          have FF := Lib.hid (FF.out.stays hbx)
          have GG := Lib.hid (GG.out.stays hbx)
          have HH := Lib.hid (HH.out.stays hbx)
          have PP := Lib.hid (PP.out.stays hbx)
          have QQ := Lib.hid (QQ.out.stays hbx)
          have R20 := Lib.hid (R18.out.trans (hbx.mono hz_y17))
          have hz_y19 := R20.out.size
          clear hb hbx  R18 hz_y17
          go_wp2_with fail
          refine (ints_eq PP.out QQ.out).mono ?_
          rintro e y21 ⟨rfl, hb⟩
          have hbx : Below y19.heap.size y19 y21 := below_via (by go_grown) hb (by first | (simp; done) | (simp; omega))
          have VL := Lib.hid (VL.out.stays hbx)
          have VM := Lib.hid (VM.out.stays hbx)
          have VB := Lib.hid (VB.out.stays hbx)
          have EE := Lib.hid (EE.out.stays hbx)
          have FF := Lib.hid (FF.out.stays hbx)
          have GG := Lib.hid (GG.out.stays hbx)
          have HH := Lib.hid (HH.out.stays hbx)
          have PP := Lib.hid (PP.out.stays hbx)
          have QQ := Lib.hid (QQ.out.stays hbx)
          have R22 := Lib.hid (R20.out.trans (hbx.mono hz_y19))
          have hz_y21 := R22.out.size
          clear hb hbx  R20 hz_y19
          go_wp2_with fail
          refine (find_any _ _ _ _ kd _ VL.out (by omega)).mono ?_
          rintro e y23 ⟨SA, sn, sc, rfl, h1, hb⟩
          have hbx : Below y21.heap.size y21 y23 := below_via (by go_grown) hb (by first | (simp; done) | (simp; omega))
          have VL := Lib.hid (VL.out.stays hbx)
          have VM := Lib.hid (VM.out.stays hbx)
          have VB := Lib.hid (VB.out.stays hbx)
          have EE := Lib.hid (EE.out.stays hbx)
          have FF := Lib.hid (FF.out.stays hbx)
          have GG := Lib.hid (GG.out.stays hbx)
          have HH := Lib.hid (HH.out.stays hbx)
          have PP := Lib.hid (PP.out.stays hbx)
          have QQ := Lib.hid (QQ.out.stays hbx)
          have SS := Lib.hid h1
          have R24 := Lib.hid (R22.out.trans (hbx.mono hz_y21))
          have hz_y23 := R24.out.size
          clear hb hbx h1 R22 hz_y21
          go_wp2_with fail
          refine (refFind_any _ _ _ _ kd _ VL.out (by omega)).mono ?_
          rintro e y25 ⟨TA, tn, tc, rfl, h1, hb⟩
          have hbx : Below y23.heap.size y23 y25 := below_via (by go_grown) hb (by first | (simp; done) | (simp; omega))
          have VL := Lib.hid (VL.out.stays hbx)
          have VM := Lib.hid (VM.out.stays hbx)
          have VB := Lib.hid (VB.out.stays hbx)
          have EE := Lib.hid (EE.out.stays hbx)
          have FF := Lib.hid (FF.out.stays hbx)
          have GG := Lib.hid (GG.out.stays hbx)
          have HH := Lib.hid (HH.out.stays hbx)
          have PP := Lib.hid (PP.out.stays hbx)
          have QQ := Lib.hid (QQ.out.stays hbx)
          have SS := Lib.hid (SS.out.stays hbx)
          have TT := Lib.hid h1
          have R26 := Lib.hid (R24.out.trans (hbx.mono hz_y23))
          have hz_y25 := R26.out.size
          clear hb hbx h1 R24 hz_y23
          go_wp2_with fail
          refine (ints_eq SS.out TT.out).mono ?_
          rintro e y27 ⟨rfl, hb⟩
          have hbx : Below y25.heap.size y25 y27 := below_via (by go_grown) hb (by first | (simp; done) | (simp; omega))
          have VL := Lib.hid (VL.out.stays hbx)
          have VM := Lib.hid (VM.out.stays hbx)
          have VB := Lib.hid (VB.out.stays hbx)
          have EE := Lib.hid (EE.out.stays hbx)
          have FF := Lib.hid (FF.out.stays hbx)
          have GG := Lib.hid (GG.out.stays hbx)
          have HH := Lib.hid (HH.out.stays hbx)
          have PP := Lib.hid (PP.out.stays hbx)
          have QQ := Lib.hid (QQ.out.stays hbx)
          have SS := Lib.hid (SS.out.stays hbx)
          have TT := Lib.hid (TT.out.stays hbx)
          have R28 := Lib.hid (R26.out.trans (hbx.mono hz_y25))
          have hz_y27 := R28.out.size
          clear hb hbx  R26 hz_y25
          go_wp2_with fail
          refine (sameE_any _ _ _ _ _ _ _ _ _ VL.out VM.out).mono ?_
          rintro e y29 ⟨rfl, hb⟩
          have hbx : Below y27.heap.size y27 y29 := below_via (by go_grown) hb (by first | (simp; done) | (simp; omega))
          have VL := Lib.hid (VL.out.stays hbx)
          have VM := Lib.hid (VM.out.stays hbx)
          have VB := Lib.hid (VB.out.stays hbx)
          have EE := Lib.hid (EE.out.stays hbx)
          have FF := Lib.hid (FF.out.stays hbx)
          have GG := Lib.hid (GG.out.stays hbx)
          have HH := Lib.hid (HH.out.stays hbx)
          have PP := Lib.hid (PP.out.stays hbx)
          have QQ := Lib.hid (QQ.out.stays hbx)
          have SS := Lib.hid (SS.out.stays hbx)
          have TT := Lib.hid (TT.out.stays hbx)
          have R30 := Lib.hid (R28.out.trans (hbx.mono hz_y27))
          have hz_y29 := R30.out.size
          clear hb hbx  R28 hz_y27
          rw [HSQ.out]
          go_wp2_with fail
          refine (sameFields_any _ _ _ _ _ _ _ _ _ VL.out VM.out).mono ?_
          rintro e y31 ⟨rfl, hb⟩
          have hbx : Below y29.heap.size y29 y31 := below_via (by go_grown) hb (by first | (simp; done) | (simp; omega))
          have VL := Lib.hid (VL.out.stays hbx)
          have VM := Lib.hid (VM.out.stays hbx)
          have VB := Lib.hid (VB.out.stays hbx)
          have EE := Lib.hid (EE.out.stays hbx)
          have FF := Lib.hid (FF.out.stays hbx)
          have GG := Lib.hid (GG.out.stays hbx)
          have HH := Lib.hid (HH.out.stays hbx)
          have PP := Lib.hid (PP.out.stays hbx)
          have QQ := Lib.hid (QQ.out.stays hbx)
          have SS := Lib.hid (SS.out.stays hbx)
          have TT := Lib.hid (TT.out.stays hbx)
          have R32 := Lib.hid (R30.out.trans (hbx.mono hz_y29))
          have hz_y31 := R32.out.size
          clear hb hbx  R30 hz_y29
          rw [HSQ.out]
          go_wp2_with fail
          refine (sameE_any _ _ _ _ _ _ _ _ _ VL.out VL.out).mono ?_
          rintro e y33 ⟨rfl, hb⟩
          have hbx : Below y31.heap.size y31 y33 := below_via (by go_grown) hb (by first | (simp; done) | (simp; omega))
          have VL := Lib.hid (VL.out.stays hbx)
          have VM := Lib.hid (VM.out.stays hbx)
          have VB := Lib.hid (VB.out.stays hbx)
          have EE := Lib.hid (EE.out.stays hbx)
          have FF := Lib.hid (FF.out.stays hbx)
          have GG := Lib.hid (GG.out.stays hbx)
          have HH := Lib.hid (HH.out.stays hbx)
          have PP := Lib.hid (PP.out.stays hbx)
          have QQ := Lib.hid (QQ.out.stays hbx)
          have SS := Lib.hid (SS.out.stays hbx)
          have TT := Lib.hid (TT.out.stays hbx)
          have R34 := Lib.hid (R32.out.trans (hbx.mono hz_y31))
          have hz_y33 := R34.out.size
          clear hb hbx  R32 hz_y31
          rw [decide_eq_true (rfl : fs = fs)]
          go_wp2
          go_ret
          exact ⟨rfl, R34.out⟩
end Go.Proofs.Ytofadjcphaehcaa
