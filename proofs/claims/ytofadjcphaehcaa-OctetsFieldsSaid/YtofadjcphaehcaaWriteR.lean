/- sectimeref01.Write. -/
import Derived.Test.YtofadjcphaehcaaWrite
import Derived.Test.YtofadjcphaehcaaUnhC
import Derived.Test.YtofadjcphaehcaaRefJoin
namespace Go.Proofs.Ytofadjcphaehcaa
open Go.RowKit

set_option maxRecDepth 100000 in
set_option maxHeartbeats 2000000 in
theorem refWrite_any (A : Option Addr) (n c : Nat) (fs : List (Int × List UInt8)) (w : World) (hv : FldL w A n c fs) :
    Calls Try.prog 38 #[.slice A n c] w fun e w' => ∃ A' n' c', e = .returned (.tuple #[.slice A' n' c', .int .i64 (writeL fs []).2]) ∧ Bytes w' A' n' c' (writeL fs []).1 ∧ Below w.heap.size w w' := by
  have hcap := hv.cap
  have hle := hv.le
  have HL := Lib.hid hv.len
  have HV := Lib.hid hv
  obtain ⟨i0, hi, hz0, hz1, hz2⟩ := info_parts infoByteA
  obtain ⟨R, hR⟩ : ∃ R, writeL fs [] = R := ⟨_, rfl⟩
  rw [hR]
  have HR := Lib.hid hR
  clear hv hR
  go_enter Try.func38, Try.ntmps38
  go_wp2
  go_loopw [4, 5] (fun s i wr => ∃ (k m cc : Nat) (AA : Option Addr) (out : List UInt8), k ≤ n ∧ i = .int .i64 k ∧ s = .slice AA m cc ∧ wr.ownsRow w.heap.size 5 1 (.slice AA m cc) m (out.map byteV) ∧ Below w.heap.size w wr ∧ m ≤ 65535 * 3 ∧
      Hid (writeL (fs.drop k) out = R)) (fun _ i _ => n - (intOf i).toNat)
  case atStart => exact ⟨0, 0, 0, _, [], Nat.zero_le _, rfl, rfl, World.ownsRow_lit w _ _ (Nat.le_refl _) (by decide) rfl, by go_grown, by omega, HR⟩
  case round =>
    obtain ⟨k, m, cc, AA, out, hk, rfl, rfl, hown, hbr, hm, hw⟩ := hrel
    have hout : Bytes wr AA m cc out := own_rd hown
    by_cases hkn : k < n
    · obtain ⟨b, off, A', n', c', rfl, hc0, hc1, hy⟩ := HV.out.at_ hkn
      have HC0 := Lib.hid hc0
      have HC1 := Lib.hid hc1
      replace hc0 := cell_stays hbr hc0
      replace hc1 := cell_stays hbr hc1
      replace hy := hy.stays hbr
      have hdr : fs.drop k = (fldT fs k, fldD fs k) :: fs.drop (k + 1) := by
        rw [List.drop_eq_getElem_cons (by rw [HL.out]; exact hkn)]
        congr 1
        have : k < fs.length := by rw [HL.out]; exact hkn
        simp [fldT, fldD, List.getD, this]
      have hw2 := hw.out
      rw [hdr, writeL] at hw2
      have HW := Lib.hid hw2
      have hsz := hbr.size
      clear hw hw2 hdr
      generalize htt : fldT fs k = ty at *
      generalize hdd : fldD fs k = da at *
      clear htt hdd
      by_cases ht : ty < 0 ∨ 65535 < ty
      · have hw3 := HW.out
        rw [if_pos ht] at hw3
        subst hw3
        rcases ht with ht | ht
        · go_wp2
          go_ret2
          exact ⟨none, 0, 0, rfl, Bytes.nil _ _ _ (by decide), by go_grown⟩
        · have ht' : ¬ ty < 0 := by omega
          go_wp2
          go_ret2
          exact ⟨none, 0, 0, rfl, Bytes.nil _ _ _ (by decide), by go_grown⟩
      · have hw3 := HW.out
        rw [if_neg ht] at hw3
        have ht1 : 0 ≤ ty := by omega
        have ht2 : ty ≤ 65535 := by omega
        have hyl := hy.len
        have hyle := hy.le
        have hycap := hy.cap
        have hok := hout.le
        have hoc := hout.cap
        clear ht
        by_cases hd : 65535 < n'
        · rw [hyl, if_pos hd] at hw3
          subst hw3
          clear hyl
          go_wp2
          go_ret2
          exact ⟨none, 0, 0, rfl, Bytes.nil _ _ _ (by decide), by go_grown⟩
        · rw [hyl, if_neg hd, hout.len] at hw3
          have HW3 := Lib.hid hw3
          clear hw3 HW
          have HYL := Lib.hid hyl
          clear hyl
          obtain ⟨tn, rfl⟩ := Int.eq_ofNat_of_zero_le ht1
          have hm4 : m + 2 + 2 + n' ≤ 1099511627776 := by omega
          by_cases hsm : m ≤ 65535
          · have hki : (k : Int) < (n : Int) := by omega
            go_wp2_with fail
            have tok1 : True := trivial
            have hpl : ([putL tn 2, putL n' 2, da] : List (List UInt8)).flatten.length = 2 + 2 + n' := by simp [putL_length, HYL.out]; omega
            have HPL := Lib.hid hpl
            have HOW := Lib.hid hown
            have HY := Lib.hid hy
            clear hpl hown hout hy
            have hwt : IntKind.u64.wrap (tn : Int) = (tn : Int) := IntWalk.u64_in _ (by omega)
            have hwn : IntKind.u64.wrap (n' : Int) = (n' : Int) := IntWalk.u64_in _ (by omega)
            go_region_held3 (fun w' => w'.cell? ⟨b, off + k * 2, none⟩ = some (.int .i64 tn) ∧ w'.cell? ⟨b, off + k * 2 + 1, none⟩ = some (.slice A' n' c'))
              (go_keep)
              (first
                | (go_at_call 43; have _t := tok1; clear tok1; refine (refPut_reads _ _ (by decide) _).mono ?_; rintro e w2 ⟨Ap, cp, rfl, hp, hb2⟩; have z0 : w2.cell? ⟨b, off + k * 2, none⟩ = some (.int .i64 tn) := cell_stays hb2 (by go_simp); have z1 : w2.cell? ⟨b, off + k * 2 + 1, none⟩ = some (.slice A' n' c') := cell_stays hb2 (by go_simp); have hq2 : Below wr.heap.size wr w2 := (below_via (by go_grown) hb2 (by simp)))
                | (go_at_call 43; refine (refPut_reads _ _ (by decide) _).mono ?_; rintro e w3 ⟨Aq, cq, rfl, hq, hb3⟩; have y0 : w3.cell? ⟨b, off + k * 2, none⟩ = some (.int .i64 tn) := cell_stays hb3 (by go_simp); have y1 : w3.cell? ⟨b, off + k * 2 + 1, none⟩ = some (.slice A' n' c') := cell_stays hb3 (by go_simp); have hp3 := hp.stays hb3; have hq3 := hq2.trans (hb3.mono hq2.size))
                | (go_at_call 35; refine (refJoin_any _ _ _ [putL tn 2, putL n' 2, da] _ (lists_made3 hp3 hq (HY.out.stays hq3)) (2 + 2 + n') HPL.out (by omega)).mono ?_; rintro e w4 ⟨Aj, cj, rfl, hj, hb4⟩; have u0 : w4.cell? ⟨b, off + k * 2, none⟩ = some (.int .i64 tn) := cell_stays hb4 (by go_simp); have u1 : w4.cell? ⟨b, off + k * 2 + 1, none⟩ = some (.slice A' n' c') := cell_stays hb4 (by go_simp); have hb5 : Below wr.heap.size wr w4 := hq3.trans (below_via ((Below.refl _ _).alloc (by have := hq3.size; omega) _) hb4 (by simp; have := hq3.size; omega)))
                | (refine step_append_rd rfl _ _ 23 rfl i0 (.int .u8 0) 1 Try.underlying23 hi hz0 hz1 hz2 rfl (by decide) rfl (own_below HOW.out hb5) rfl (own_rd hj) (oneCell_bytes _) (by unfold maxLen; omega) (by omega) (by have := hb5.size; omega) ?_; intro A8 c8 w8 hown8 hb8; have hB8 : Below w.heap.size w w8 := (hbr.trans (hb5.mono hsz)).trans hb8; have v0 := cell_stays hB8 HC0.out; have v1 := cell_stays hB8 HC1.out))
            clear hwt hwn
            have H8 := Lib.hid hown8
            clear hown8 hb8 hb5 hj hp hq hp3 hq2 hq3 hb2 hb3 hb4
            go_wp2
            go_roundw
            case rel =>
              refine ⟨k + 1, m + (2 + 2 + n'), c8, A8, out ++ encF ((tn : Int), da), by omega, by go_num, rfl, ?_, hB8, by omega, ?_⟩
              · have := H8.out
                have e : out.map byteV ++ (([putL tn 2, putL n' 2, da] : List (List UInt8)).flatten).map byteV = (out ++ encF ((tn : Int), da)).map byteV := by simp [encF, HYL.out]
                rw [e] at this
                exact this
              · have := HW3.out
                rw [if_pos hsm] at this
                exact this
            case measure => simp [intOf]; omega
          · go_wp2_with fail
            go_roundw
            case rel =>
              refine ⟨k + 1, m, cc, AA, out, by omega, by go_num, rfl, hown, hbr, hm, ?_⟩
              have := HW3.out
              rw [if_neg hsm] at this
              exact this
            case measure => simp [intOf]; omega
    · obtain rfl : k = n := by omega
      have hw2 := hw.out
      rw [List.drop_of_length_le (by rw [HL.out]; exact Nat.le_refl _), writeL, hout.len] at hw2
      have hok := hout.le
      have hoc := hout.cap
      by_cases hbig : 65535 < m
      · rw [if_pos hbig] at hw2
        subst hw2
        go_wp2
        go_ret2
        exact ⟨none, 0, 0, rfl, Bytes.nil _ _ _ (by decide), hbr⟩
      · rw [if_neg hbig] at hw2
        subst hw2
        go_wp2
        go_ret2
        exact ⟨AA, m, cc, rfl, hout, hbr⟩
end Go.Proofs.Ytofadjcphaehcaa
