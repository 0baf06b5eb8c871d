/- ExtensionReadsBack: the walk. -/
import Derived.Test.YtofadjcphaehcaaExtO
namespace Go.Proofs.Ytofadjcphaehcaa
open Go.RowKit

theorem dec_few (b : List UInt8) (h : b.length ≤ 100000) (k : Nat) : (fldD (decL (readX b)) k).length ≤ 100000 := by
  unfold decL
  by_cases h0 : (readX b).1 = 0
  · rw [if_pos h0]
    by_cases hk : k < (flX (readX b).2).length
    · have hm := fld_mem _ k hk
      unfold flX at hm
      unfold readX at hm h0
      by_cases h1 : 1232 < b.length
      · rw [if_pos h1] at h0; cases h0
      · rw [if_neg h1] at h0 hm
        have := (wkX_back b.length 0 0 b (Nat.le_refl _) (by omega) h0).2.2 _ hm
        have h3 : (fldD (flX (readX b).2) k).length ≤ b.length := by
          have e : readX b = wkX b.length 0 0 b := by rw [readX, if_neg h1]
          rw [e]; exact this.2.2
        omega
    · simp [fldD, List.getD, hk]
  · rw [if_neg h0]; simp [fldD]
set_option maxRecDepth 100000 in
set_option maxHeartbeats 4000000 in
theorem extensionReadsBack_walk (A0 : Option Addr) (n0 c0 : Nat) (ls : List (Int × List UInt8)) (A1 : Option Addr) (n1 c1 : Nat) (lb : List UInt8) (w : World) (hl : FldL w A0 n0 c0 ls) (hb : Bytes w A1 n1 c1 lb) :
    Calls Try.prog 7 #[.slice A0 n0 c0, .slice A1 n1 c1] w fun e w' => e = .returned (.bool true) ∧ Below w.heap.size w w' := by
  have VL := Lib.hid hl
  have VB := Lib.hid hb
  have q3 := hb.le
  have q4 := hb.cap
  clear hl hb
  by_cases h7 : 700 < n1
  ·
    have e7 : (700 : Int) < (n1 : Int) := by omega
    go_enter Try.func7, Try.ntmps7
    go_wp2_with fail
    refine (extKnown _).mono ?_
    rintro e y1 ⟨rfl, hb⟩
    have hbx : Below w.heap.size w y1 := below_via (by go_grown) hb (by first | (simp; done) | (simp; omega))
    have VL := Lib.hid (VL.out.stays hbx)
    have VB := Lib.hid (VB.out.stays hbx)
    have R2 := Lib.hid hbx
    have hz_y1 := R2.out.size
    clear hb hbx 
    go_wp2
    go_ret
    exact ⟨rfl, R2.out⟩
  have e7 : ¬ (700 : Int) < (n1 : Int) := by omega
  go_enter Try.func7, Try.ntmps7
  obtain ⟨F, hF⟩ : ∃ F, fieldsW ls = F := ⟨_, rfl⟩
  have HX : Hid (okX F) := by rw [← hF]; exact okX_W ls
  have hF4 : F.length ≤ 4 := by rw [← hF]; exact fieldsW_len ls
  go_wp2_with fail
  refine (fields_any2 _ _ _ _ _ VL.out).mono ?_
  rintro e y1 ⟨FA, fn, fc, rfl, h1, hb⟩
  have hbx : Below w.heap.size w y1 := below_via (by go_grown) hb (by first | (simp; done) | (simp; omega))
  have VL := Lib.hid (VL.out.stays hbx)
  have VB := Lib.hid (VB.out.stays hbx)
  have VF := Lib.hid h1
  have R2 := Lib.hid hbx
  have hz_y1 := R2.out.size
  clear hb hbx h1
  rw [hF] at VF
  clear hF
  have HFl := Lib.hid VF.out.len
  have hfn : fn ≤ 4 := by rw [← HFl.out]; exact hF4
  have hfc := VF.out.cap
  have hfle := VF.out.le
  have HFB := Lib.hid (show ∀ k, (fldD F k).length ≤ 100000 from fun k => by
    by_cases hk : k < F.length
    · have h1 := (HX.out _ (fld_mem F k hk)).2.2
      have h2 := exSz_ge (fldD F k).length
      simp only [] at h1; omega
    · simp [fldD, List.getD, hk])
  have HEN := Lib.hid (HX.out.enc (by omega))
  have HDE := Lib.hid (HX.out.dec (by omega))
  have HRD := Lib.hid (HX.out.read (by omega))
  have HLN := Lib.hid (HX.out.len)
  obtain ⟨X, hX⟩ : ∃ X, F.flatMap encX = X := ⟨_, rfl⟩
  rw [hX] at HEN HDE HRD HLN
  clear hX
  go_wp2_with fail
  refine (encode_any _ _ _ _ _ VF.out HFB.out).mono ?_
  rintro e y3 ⟨EA, en, ec, rfl, h1, hb⟩
  have hbx : Below y1.heap.size y1 y3 := below_via (by go_grown) hb (by first | (simp; done) | (simp; omega))
  have VL := Lib.hid (VL.out.stays hbx)
  have VB := Lib.hid (VB.out.stays hbx)
  have VF := Lib.hid (VF.out.stays hbx)
  have VX := Lib.hid h1
  have R4 := Lib.hid (R2.out.trans (hbx.mono hz_y1))
  have hz_y3 := R4.out.size
  clear hb hbx h1 R2 hz_y1
  rw [HEN.out] at VX ⊢
  have HXl := Lib.hid VX.out.len
  go_wp2_with fail
  refine (decode_any _ _ _ _ _ VX.out).mono ?_
  rintro e y5 ⟨DA, dn, dc, rfl, h1, hb⟩
  have hbx : Below y3.heap.size y3 y5 := below_via (by go_grown) hb (by first | (simp; done) | (simp; omega))
  have VL := Lib.hid (VL.out.stays hbx)
  have VB := Lib.hid (VB.out.stays hbx)
  have VF := Lib.hid (VF.out.stays hbx)
  have VX := Lib.hid (VX.out.stays hbx)
  have VD := Lib.hid h1
  have R6 := Lib.hid (R4.out.trans (hbx.mono hz_y3))
  have hz_y5 := R6.out.size
  clear hb hbx h1 R4 hz_y3
  rw [HDE.out] at VD
  rw [HRD.out]
  go_wp2_with fail
  refine (allPadded_any _ _ _ _ _ VF.out HFB.out (by omega)).mono ?_
  rintro e y7 ⟨PA, pn, pc, rfl, h1, hb⟩
  have hbx : Below y5.heap.size y5 y7 := below_via (by go_grown) hb (by first | (simp; done) | (simp; omega))
  have VL := Lib.hid (VL.out.stays hbx)
  have VB := Lib.hid (VB.out.stays hbx)
  have VF := Lib.hid (VF.out.stays hbx)
  have VX := Lib.hid (VX.out.stays hbx)
  have VD := Lib.hid (VD.out.stays hbx)
  have VP := Lib.hid h1
  have R8 := Lib.hid (R6.out.trans (hbx.mono hz_y5))
  have hz_y7 := R8.out.size
  clear hb hbx h1 R6 hz_y5
  go_wp2_with fail
  refine (sameFields_true VD.out VP.out rfl).mono ?_
  rintro e y9 ⟨rfl, hb⟩
  have hbx : Below y7.heap.size y7 y9 := below_via (by go_grown) hb (by first | (simp; done) | (simp; omega))
  have VL := Lib.hid (VL.out.stays hbx)
  have VB := Lib.hid (VB.out.stays hbx)
  have VF := Lib.hid (VF.out.stays hbx)
  have VX := Lib.hid (VX.out.stays hbx)
  have VD := Lib.hid (VD.out.stays hbx)
  have VP := Lib.hid (VP.out.stays hbx)
  have R10 := Lib.hid (R8.out.trans (hbx.mono hz_y7))
  have hz_y9 := R10.out.size
  clear hb hbx  R8 hz_y7
  have hen : en = totX F := by rw [← HXl.out]; exact HLN.out
  have hem : (en : Int) % 4 = 0 := by have := totX_mod F; omega
  have HEN2 := Lib.hid hen
  have ht4 : Int.tmod (en : Int) 4 = 0 := by rw [Int.tmod_eq_emod_of_nonneg (by omega)]; exact hem
  have hen5 : en ≤ 512 := by rw [hen]; exact HX.out.tot (by omega)
  clear hen hem
  go_wp2_with fail
  go_loopw [10, 11] (fun s i wr => ∃ (k sm : Nat), k ≤ fn ∧ i = .int .i64 k ∧ s = .int .i64 sm ∧ Hid (sm = totX (F.take k)) ∧ sm ≤ 512 ∧ Below y9.heap.size y9 wr) (fun _ i _ => fn - (intOf i).toNat)
  case atStart => exact ⟨0, 0, Nat.zero_le _, rfl, rfl, rfl, by decide, Below.refl _ _⟩
  case round =>
    obtain ⟨k, sm, hk, rfl, rfl, HS, hs5, hbr⟩ := hrel
    have RW := Lib.hid (R10.out.trans (hbr.mono hz_y9))
    have hz_wr := RW.out.size
    have RK := Lib.hid hbr
    have VF := Lib.hid (VF.out.stays hbr)
    have VB := Lib.hid (VB.out.stays hbr)
    clear hbr VL VX VD VP
    by_cases hkn : k < fn
    ·
      have hki : (k : Int) < (fn : Int) := by omega
      obtain ⟨bb, off, A', n', c', rfl, hc0, hc1, hy⟩ := VF.out.at_ hkn
      have hyn : n' ≤ 100000 := by rw [← hy.len]; exact HFB.out k
      have HYL := Lib.hid hy.len
      have HZ := Lib.hid (HX.out.size k (by rw [HFl.out]; exact hkn))
      have HT := Lib.hid (totX_take F k (by rw [HFl.out]; exact hkn))
      have hle5 : totX (F.take (k + 1)) ≤ 512 := okX.tot (fun f hf => HX.out f (List.mem_of_mem_take hf)) (by rw [List.length_take]; omega)
      obtain ⟨t, ht⟩ : ∃ t, fldT F k = t := ⟨_, rfl⟩
      obtain ⟨d, hd⟩ : ∃ d, fldD F k = d := ⟨_, rfl⟩
      rw [ht] at hc0 HZ
      rw [hd] at HYL HZ HT
      obtain ⟨z, hz⟩ : ∃ z, exSz d.length = z := ⟨_, rfl⟩
      rw [hz] at HZ HT
      have hsz : sm + z ≤ 512 := by have h1 := HS.out; have h2 := HT.out; omega
      clear hy ht hd hz hle5
      go_wp2_with fail
      refine (sizeE_any t A' n' c' d _ HYL.out (by omega)).mono ?_
      rintro e y11 ⟨rfl, hb⟩
      have hbx : Below wr.heap.size wr y11 := below_via (by go_grown) hb (by first | (simp; done) | (simp; omega))
      have RK := Lib.hid (RK.out.trans (hbx.mono RK.out.size))
      have R12 := Lib.hid (RW.out.trans (hbx.mono hz_wr))
      have hz_y11 := R12.out.size
      clear hb hbx  RW hz_wr
      rw [HZ.out]
      go_wp2
      go_roundw
      case rel => exact ⟨k + 1, sm + z, by omega, by go_num, by go_num, by rw [Hid, HT.out]; have := HS.out; omega, by omega, RK.out⟩
      case measure => simp [intOf]; omega
    obtain rfl : k = fn := by omega
    have hse : sm = en := by rw [HS.out, HEN2.out, List.take_of_length_le (by rw [HFl.out]; exact Nat.le_refl _)]
    subst hse
    clear RK hkn HS HEN2
    obtain ⟨e0, he0⟩ : ∃ e0, (readX lb).1 = e0 := ⟨_, rfl⟩
    have HE0 := Lib.hid he0
    clear he0
    go_wp2_with fail
    refine (decode_any _ _ _ _ _ VB.out).mono ?_
    rintro e y11 ⟨UA, un, uc, rfl, h1, hb⟩
    have hbx : Below wr.heap.size wr y11 := below_via (by go_grown) hb (by first | (simp; done) | (simp; omega))
    have VB := Lib.hid (VB.out.stays hbx)
    have VU := Lib.hid h1
    have R12 := Lib.hid (RW.out.trans (hbx.mono hz_wr))
    have hz_y11 := R12.out.size
    clear hb hbx h1 RW hz_wr
    rw [HE0.out]
    by_cases hz : e0 = 0
    case neg =>
      have z1 : (e0 == 0) = false := by simpa using hz
      have z2 : (e0 != 0) = true := by simp [bne, z1]
      go_wp2_with fail
      refine (extKnown _).mono ?_
      rintro e y13 ⟨rfl, hb⟩
      have hbx : Below y11.heap.size y11 y13 := below_via (by go_grown) hb (by first | (simp; done) | (simp; omega))
      have VB := Lib.hid (VB.out.stays hbx)
      have VU := Lib.hid (VU.out.stays hbx)
      have R14 := Lib.hid (R12.out.trans (hbx.mono hz_y11))
      have hz_y13 := R14.out.size
      clear hb hbx  R12 hz_y11
      go_wp2
      go_ret
      exact ⟨rfl, R14.out⟩
    have HBK := Lib.hid (readX_back (HE0.out.trans hz))
    subst hz
    obtain ⟨U, hU⟩ : ∃ U, decL (readX lb) = U := ⟨_, rfl⟩
    rw [hU] at VU HBK
    have HUB : Hid (∀ k, (fldD U k).length ≤ 100000) := by rw [← hU]; exact dec_few lb (by rw [VB.out.len]; omega)
    clear hU
    go_wp2_with fail
    refine (encode_any _ _ _ _ _ VU.out HUB.out).mono ?_
    rintro e y13 ⟨YA, yn, yc, rfl, h1, hb⟩
    have hbx : Below y11.heap.size y11 y13 := below_via (by go_grown) hb (by first | (simp; done) | (simp; omega))
    have VB := Lib.hid (VB.out.stays hbx)
    have VU := Lib.hid (VU.out.stays hbx)
    have VY := Lib.hid h1
    have R14 := Lib.hid (R12.out.trans (hbx.mono hz_y11))
    have hz_y13 := R14.out.size
    clear hb hbx h1 R12 hz_y11
    rw [HBK.out] at VY ⊢
    go_wp2_with fail
    refine (extKnown _).mono ?_
    rintro e y15 ⟨rfl, hb⟩
    have hbx : Below y13.heap.size y13 y15 := below_via (by go_grown) hb (by first | (simp; done) | (simp; omega))
    have VB := Lib.hid (VB.out.stays hbx)
    have VU := Lib.hid (VU.out.stays hbx)
    have VY := Lib.hid (VY.out.stays hbx)
    have R16 := Lib.hid (R14.out.trans (hbx.mono hz_y13))
    have hz_y15 := R16.out.size
    clear hb hbx  R14 hz_y13
    go_wp2_with fail
    refine (refSame_true VY.out VB.out rfl).mono ?_
    rintro e q_ ⟨rfl, rfl⟩
    go_wp2
    go_ret
    exact ⟨rfl, R16.out⟩
end Go.Proofs.Ytofadjcphaehcaa
