/- RoughEncodes: the walk. -/
import Derived.Test.YtbjmojajhkhekaaRgK
namespace Go.Proofs.Ytbjmojajhkhekaa
open Go Go.RowKit

set_option maxRecDepth 100000 in
set_option maxHeartbeats 4000000 in
theorem roughEncodes_walk (A0 : Option Addr) (n0 c0 : Nat) (ts : Tags) (A1 : Option Addr) (n1 c1 : Nat) (l : List Int) (nm : ByteArray) (w : World) (ht : TagL w A0 n0 c0 ts) (hi : Rd w 1 A1 n1 c1 (l.map (Value.int .i64))) :
    Calls Try.prog 3 #[.slice A0 n0 c0, .slice A1 n1 c1, .string nm] w fun e w' => e = .returned (.bool true) ∧ Below w.heap.size w w' := by
  have VT := Lib.hid ht
  have VI := Lib.hid hi
  clear ht hi
  obtain ⟨sz, hsz⟩ : ∃ sz, nm.size = sz := ⟨_, rfl⟩
  go_enter Try.func3, Try.ntmps3
  go_wp2_with fail
  refine (light_any28 _ _ _ _ _ VT.out).mono ?_
  rintro e y1 ⟨q, rfl, hq, hb⟩
  have hbx : Below w.heap.size w y1 := below_via (by go_grown) hb (by first | (simp; done) | (simp; omega))
  have VT := Lib.hid (VT.out.stays hbx)
  have VI := Lib.hid (VI.out.stays hbx)
  have R2 := Lib.hid hbx
  have hz_y1 := R2.out.size
  clear hb hbx 
  have HQ := Lib.hid hq
  clear hq
  cases q with
  | false =>
    go_wp2_with fail
    refine (rgKnown _).mono ?_
    rintro e y3 ⟨rfl, hb⟩
    have hbx : Below y1.heap.size y1 y3 := below_via (by go_grown) hb (by first | (simp; done) | (simp; omega))
    have VT := Lib.hid (VT.out.stays hbx)
    have VI := Lib.hid (VI.out.stays hbx)
    have R4 := Lib.hid (R2.out.trans (hbx.mono hz_y1))
    have hz_y3 := R4.out.size
    clear hb hbx  R2 hz_y1
    go_wp2
    go_ret
    exact ⟨rfl, R4.out⟩
  | true =>
    have hlight := HQ.out rfl
    have HF := Lib.hid (fun k => Nat.le_trans (hlight.2 k) (show 600 ≤ 100000 by decide))
    clear hlight HQ
    by_cases h20 : 20 < sz
    ·
      have e20 : (20 : Int) < (sz : Int) := by omega
      go_wp2_with fail
      refine (rgKnown _).mono ?_
      rintro e y3 ⟨rfl, hb⟩
      have hbx : Below y1.heap.size y1 y3 := below_via (by go_grown) hb (by first | (simp; done) | (simp; omega))
      have VT := Lib.hid (VT.out.stays hbx)
      have VI := Lib.hid (VI.out.stays hbx)
      have R4 := Lib.hid (R2.out.trans (hbx.mono hz_y1))
      have hz_y3 := R4.out.size
      clear hb hbx  R2 hz_y1
      go_wp2
      go_ret
      exact ⟨rfl, R4.out⟩
    have e20 : ¬ (20 : Int) < (sz : Int) := by omega
    go_wp2_with fail
    refine (made_any _ _ _ _ _ VI.out).mono ?_
    rintro e y3 ⟨mA, mm, mc, ms, rfl, h1, hms, hm8, hb⟩
    have hbx : Below y1.heap.size y1 y3 := below_via (by go_grown) hb (by first | (simp; done) | (simp; omega))
    have VT := Lib.hid (VT.out.stays hbx)
    have VI := Lib.hid (VI.out.stays hbx)
    have VM := Lib.hid h1
    have R4 := Lib.hid (R2.out.trans (hbx.mono hz_y1))
    have hz_y3 := R4.out.size
    clear hb hbx h1 R2 hz_y1
    have HM := Lib.hid (fun k => Nat.le_trans (hms k) (show 32 ≤ 100000 by decide))
    clear hms
    obtain ⟨yb, hyb⟩ : ∃ yb, y3.heap.size = yb := ⟨_, rfl⟩
    have BL0 := Lib.hid (show Blk (y3.alloc (.cells #[.slice A0 n0 c0, .slice mA mm mc] 22)) yb 22 #[.slice A0 n0 c0, .slice mA mm mc] by rw [← hyb]; exact Blk.new _ _ _)
    have HYB := Lib.hid hyb
    clear hyb hsz
    go_wp2_with fail
    try rw [HYB.out]
    go_loopw [33] (fun i wr => ∃ k : Nat, k ≤ 2 ∧ i = .int .i64 k ∧ Hid (Blk wr yb 22 #[.slice A0 n0 c0, .slice mA mm mc]) ∧ Below y3.heap.size y3 wr) (fun i _ => 2 - (intOf i).toNat)
    case atStart => exact ⟨0, by decide, rfl, BL0.out, below_alloc1 _ _⟩
    case round =>
      obtain ⟨k, hk, rfl, BL, hbr⟩ := hrel
      have RK := Lib.hid hbr
      have RW := Lib.hid (R4.out.trans (hbr.mono hz_y3))
      have hz_wr := RW.out.size
      have VT := Lib.hid (VT.out.stays hbr)
      have VM := Lib.hid (VM.out.stays hbr)
      clear hbr BL0
      by_cases hk2 : k < 2
      ·
        have hki : (k : Int) < 2 := by omega
        obtain ⟨Ax, nx, cx, tx, hkL, hvx, hfx⟩ : ∃ (Ax : Option Addr) (nx cx : Nat) (tx : Tags), wr.cell? ⟨yb, k, none⟩ = some (.slice Ax nx cx) ∧ TagL wr Ax nx cx tx ∧ ∀ j, (tgD tx j).length ≤ 100000 := by
          match k, hk2 with
          | 0, _ => exact ⟨A0, n0, c0, ts, BL.out.cell 0, VT.out, HF.out⟩
          | 1, _ => exact ⟨mA, mm, mc, ms, BL.out.cell 1, VM.out, HM.out⟩
        have VX := Lib.hid hvx
        have HX := Lib.hid hfx
        clear hvx hfx VT VM
        obtain ⟨EN, hEN⟩ : ∃ EN, encR tx = EN := ⟨_, rfl⟩
        have HEN := Lib.hid hEN
        obtain ⟨FD, hFD⟩ : ∃ FD, fndT tx nm = FD := ⟨_, rfl⟩
        have HFD := Lib.hid hFD
        clear hEN hFD
        go_wp2_with fail
        refine (encode_any28 _ _ _ _ _ VX.out HX.out).mono ?_
        rintro e y5 ⟨EA, en, ec, rfl, h1, hb⟩
        have hbx : Below wr.heap.size wr y5 := below_via (by go_grown) hb (by first | (simp; done) | (simp; omega))
        have VX := Lib.hid (VX.out.stays hbx)
        have BL := Lib.hid (BL.out.stays hbx)
        have RK := Lib.hid (RK.out.trans (hbx.mono RK.out.size))
        have V1 := Lib.hid h1
        have R6 := Lib.hid (RW.out.trans (hbx.mono hz_wr))
        have hz_y5 := R6.out.size
        clear hb hbx h1 RW hz_wr
        rw [HEN.out] at V1 ⊢
        go_wp2_with fail
        refine (refEncode_any28 _ _ _ _ _ VX.out HX.out).mono ?_
        rintro e y7 ⟨FA, fn, fc, rfl, h1, hb⟩
        have hbx : Below y5.heap.size y5 y7 := below_via (by go_grown) hb (by first | (simp; done) | (simp; omega))
        have VX := Lib.hid (VX.out.stays hbx)
        have BL := Lib.hid (BL.out.stays hbx)
        have RK := Lib.hid (RK.out.trans (hbx.mono RK.out.size))
        have V1 := Lib.hid (V1.out.stays hbx)
        have V2 := Lib.hid h1
        have R8 := Lib.hid (R6.out.trans (hbx.mono hz_y5))
        have hz_y7 := R8.out.size
        clear hb hbx h1 R6 hz_y5
        rw [HEN.out] at V2 ⊢
        go_wp2_with fail
        refine (find_any28 _ _ _ _ nm _ VX.out HX.out).mono ?_
        rintro e y9 ⟨GA, gn, gc, rfl, h1, hb⟩
        have hbx : Below y7.heap.size y7 y9 := below_via (by go_grown) hb (by first | (simp; done) | (simp; omega))
        have VX := Lib.hid (VX.out.stays hbx)
        have BL := Lib.hid (BL.out.stays hbx)
        have RK := Lib.hid (RK.out.trans (hbx.mono RK.out.size))
        have V1 := Lib.hid (V1.out.stays hbx)
        have V2 := Lib.hid (V2.out.stays hbx)
        have V3 := Lib.hid h1
        have R10 := Lib.hid (R8.out.trans (hbx.mono hz_y7))
        have hz_y9 := R10.out.size
        clear hb hbx h1 R8 hz_y7
        rw [HFD.out] at V3 ⊢
        go_wp2_with fail
        refine (refFind_any28 _ _ _ _ nm _ VX.out HX.out).mono ?_
        rintro e y11 ⟨HA, hn, hc, rfl, h1, hb⟩
        have hbx : Below y9.heap.size y9 y11 := below_via (by go_grown) hb (by first | (simp; done) | (simp; omega))
        have VX := Lib.hid (VX.out.stays hbx)
        have BL := Lib.hid (BL.out.stays hbx)
        have RK := Lib.hid (RK.out.trans (hbx.mono RK.out.size))
        have V1 := Lib.hid (V1.out.stays hbx)
        have V2 := Lib.hid (V2.out.stays hbx)
        have V3 := Lib.hid (V3.out.stays hbx)
        have V4 := Lib.hid h1
        have R12 := Lib.hid (R10.out.trans (hbx.mono hz_y9))
        have hz_y11 := R12.out.size
        clear hb hbx h1 R10 hz_y9
        rw [HFD.out] at V4 ⊢
        obtain ⟨e1, he1⟩ : ∃ e1, EN.2 = e1 := ⟨_, rfl⟩
        obtain ⟨e2, he2⟩ : ∃ e2, FD.2 = e2 := ⟨_, rfl⟩
        rw [he1, he2]
        have z1 : (e1 != e1) = false := by simp [bne]
        have z2 : (e2 != e2) = false := by simp [bne]
        clear he1 he2
        go_wp2_with fail
        refine (refSame_true V1.out V2.out rfl).mono ?_
        rintro e q_ ⟨rfl, rfl⟩
        go_wp2_with fail
        refine (refSame_true V3.out V4.out rfl).mono ?_
        rintro e q_ ⟨rfl, rfl⟩
        go_wp2
        go_roundw
        case rel => exact ⟨k + 1, by omega, by go_num, BL, RK.out⟩
        case measure => simp [intOf]; omega
      obtain rfl : k = 2 := by omega
      go_wp2_with fail
      refine (rgKnown _).mono ?_
      rintro e y5 ⟨rfl, hb⟩
      have hbx : Below wr.heap.size wr y5 := below_via (by go_grown) hb (by first | (simp; done) | (simp; omega))
      have R6 := Lib.hid (RW.out.trans (hbx.mono hz_wr))
      have hz_y5 := R6.out.size
      clear hb hbx  RW hz_wr
      go_wp2
      go_ret
      exact ⟨rfl, R6.out⟩
end Go.Proofs.Ytbjmojajhkhekaa
