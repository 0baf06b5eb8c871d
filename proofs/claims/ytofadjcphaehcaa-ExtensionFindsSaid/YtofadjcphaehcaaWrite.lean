import Derived.Test.YtofadjcphaehcaaFld
import Derived.Test.YtofadjcphaehcaaJoinO
import Derived.Test.YtofadjcphaehcaaPut
import Derived.Deep.RegionHeld3
namespace Go.Proofs.Ytofadjcphaehcaa
open Go.RowKit

/-- The bytes of a field. -/
def encF (f : Int × List UInt8) : List UInt8 := putL f.1.toNat 2 ++ putL f.2.length 2 ++ f.2
/-- What Write does from out on: the bytes and the error. -/
def writeL : List (Int × List UInt8) → List UInt8 → List UInt8 × Int
  | [], out => if 65535 < out.length then ([], 2) else (out, 0)
  | f :: fs, out => if f.1 < 0 ∨ 65535 < f.1 then ([], 4) else if 65535 < f.2.length then ([], 2) else if out.length ≤ 65535 then writeL fs (out ++ encF f) else writeL fs out

set_option maxRecDepth 100000 in
set_option maxHeartbeats 2000000 in
theorem write_any (A : Option Addr) (n c : Nat) (fs : List (Int × List UInt8)) (w : World) (hv : FldL w A n c fs) :
    Calls Try.prog 37 #[.slice A n c] w fun e w' => ∃ A' n' c', e = .returned (.tuple #[.slice A' n' c', .int .i64 (writeL fs []).2]) ∧ Bytes w' A' n' c' (writeL fs []).1 ∧ Below w.heap.size w w' := by
  have hcap := hv.cap
  have hle := hv.le
  have HL := Lib.hid hv.len
  have HV := Lib.hid hv
  obtain ⟨R, hR⟩ : ∃ R, writeL fs [] = R := ⟨_, rfl⟩
  rw [hR]
  have HR := Lib.hid hR
  clear hv hR
  go_enter Try.func37, Try.ntmps37
  go_wp2
  go_loopw [4, 9] (fun s i wr => ∃ (k m cc : Nat) (AA : Option Addr) (out : List UInt8), k ≤ n ∧ i = .int .i64 k ∧ s = .slice AA m cc ∧ Bytes wr AA m cc out ∧ Below w.heap.size w wr ∧ m ≤ 65535 * 3 ∧
      Hid (writeL (fs.drop k) out = R)) (fun _ i _ => n - (intOf i).toNat)
  case atStart => exact ⟨0, 0, 0, _, [], Nat.zero_le _, rfl, rfl, Bytes.nil _ _ _ (by decide), Below.refl _ _, by omega, HR⟩
  case round =>
    obtain ⟨k, m, cc, AA, out, hk, rfl, rfl, hout, hbr, hm, hw⟩ := hrel
    by_cases hkn : k < n
    · obtain ⟨b, off, A', n', c', rfl, hc0, hc1, hy⟩ := (HV.out.stays hbr).at_ hkn
      have hdr : fs.drop k = (fldT fs k, fldD fs k) :: fs.drop (k + 1) := by
        rw [List.drop_eq_getElem_cons (by rw [HL.out]; exact hkn)]
        congr 1
        have : k < fs.length := by rw [HL.out]; exact hkn
        simp [fldT, fldD, List.getD, this]
      have hw2 := hw.out
      rw [hdr, writeL] at hw2
      have HW := Lib.hid hw2
      have hsz := hbr.size
      clear hw hw2 hdr
      generalize htt : fldT fs k = ty at *
      generalize hdd : fldD fs k = da at *
      clear htt hdd
      by_cases ht : ty < 0 ∨ 65535 < ty
      · have hw3 := HW.out
        rw [if_pos ht] at hw3
        subst hw3
        rcases ht with ht | ht
        · go_wp2
          go_ret2
          exact ⟨none, 0, 0, rfl, Bytes.nil _ _ _ (by decide), by go_grown⟩
        · have ht' : ¬ ty < 0 := by omega
          go_wp2
          go_ret2
          exact ⟨none, 0, 0, rfl, Bytes.nil _ _ _ (by decide), by go_grown⟩
      · have hw3 := HW.out
        rw [if_neg ht] at hw3
        have ht1 : 0 ≤ ty := by omega
        have ht2 : ty ≤ 65535 := by omega
        have hyl := hy.len
        have hyle := hy.le
        have hycap := hy.cap
        have hok := hout.le
        have hoc := hout.cap
        clear ht
        by_cases hd : 65535 < n'
        · rw [hyl, if_pos hd] at hw3
          subst hw3
          clear hyl
          go_wp2
          go_ret2
          exact ⟨none, 0, 0, rfl, Bytes.nil _ _ _ (by decide), by go_grown⟩
        · rw [hyl, if_neg hd, hout.len] at hw3
          have HW3 := Lib.hid hw3
          clear hw3 HW
          have HYL := Lib.hid hyl
          clear hyl
          obtain ⟨tn, rfl⟩ := Int.eq_ofNat_of_zero_le ht1
          have hm4 : m + 2 + 2 + n' ≤ 1099511627776 := by omega
          by_cases hsm : m ≤ 65535
          · go_wp2_with fail
            obtain ⟨wq, xb, hwq, hxb⟩ : ∃ wq xb, wq = wr.alloc (.cells #[.int .i64 tn, .slice A' n' c'] 38) ∧ xb = wr.heap.size := ⟨_, _, rfl, rfl⟩
            rw [← hwq, ← hxb]
            have hbq : Below wr.heap.size wr wq := by rw [hwq]; go_grown
            have x0 : wq.cell? ⟨xb, 0, none⟩ = some (.int .i64 tn) := by rw [hwq, hxb]; go_simp
            have x1 : wq.cell? ⟨xb, 1, none⟩ = some (.slice A' n' c') := by rw [hwq, hxb]; go_simp
            have hb0 : Below w.heap.size w wq := hbr.trans (hbq.mono hsz)
            have hout := hout.stays hbq
            have hy := hy.stays hbq
            have xlt : xb < wq.heap.size := World.block_lt_of_cell? wq _ x0
            clear hwq hxb hbq hbr hc0 hc1 hsz
            have tok1 : True := trivial
            have hpl : ([out, putL tn 2, putL n' 2, da] : List (List UInt8)).flatten.length = m + 2 + 2 + n' := by simp [putL_length, hout.len, HYL.out]; omega
            have HPL := Lib.hid hpl
            clear hpl
            have hwt : IntKind.u64.wrap (tn : Int) = (tn : Int) := IntWalk.u64_in _ (by omega)
            have hwn : IntKind.u64.wrap (n' : Int) = (n' : Int) := IntWalk.u64_in _ (by omega)
            go_region_held3 (fun w' => w'.cell? ⟨xb, 0, none⟩ = some (.int .i64 tn) ∧ w'.cell? ⟨xb, 1, none⟩ = some (.slice A' n' c'))
              (go_keep)
              (first
                | (go_at_call 17; have _t := tok1; clear tok1; refine (put_reads _ _ (by decide) _).mono ?_; rintro e w2 ⟨Ap, cp, rfl, hp, hb2⟩; have z0 : w2.cell? ⟨xb, 0, none⟩ = some (.int .i64 tn) := cell_stays hb2 (by go_simp); have z1 : w2.cell? ⟨xb, 1, none⟩ = some (.slice A' n' c') := cell_stays hb2 (by go_simp); have hq2 : Below wq.heap.size wq w2 := (below_via (by go_grown) hb2 (by simp)); have zs2 : xb < w2.heap.size := World.block_lt_of_cell? w2 _ z0)
                | (go_at_call 17; refine (put_reads _ _ (by decide) _).mono ?_; rintro e w3 ⟨Aq, cq, rfl, hq, hb3⟩; have y0 : w3.cell? ⟨xb, 0, none⟩ = some (.int .i64 tn) := cell_stays hb3 (by go_simp); have y1 : w3.cell? ⟨xb, 1, none⟩ = some (.slice A' n' c') := cell_stays hb3 (by go_simp); have hp3 := hp.stays hb3; have hq3 := hq2.trans (hb3.mono hq2.size); have zs3 : xb < w3.heap.size := World.block_lt_of_cell? w3 _ y0)
                | (go_at_call 47; refine (join_any _ _ _ [out, putL tn 2, putL n' 2, da] _ (lists_made4 (hout.stays hq3) hp3 hq (hy.stays hq3)) (m + 2 + 2 + n') HPL.out hm4).mono ?_; rintro e w4 ⟨Aj, cj, rfl, hj, hb4⟩; have u0 : w4.cell? ⟨xb, 0, none⟩ = some (.int .i64 tn) := cell_stays hb4 (by go_simp); have u1 : w4.cell? ⟨xb, 1, none⟩ = some (.slice A' n' c') := cell_stays hb4 (by go_simp)))
            clear hwt hwn
            have hb5 : Below w.heap.size w w4 := (hb0.trans (hq3.mono hb0.size)).trans (below_via ((Below.refl _ _).alloc (by have := hq3.size; have := hb0.size; omega) _) hb4 (by simp; have := hq3.size; have := hb0.size; omega))
            have hr4 := own_rd hj
            have HR4 := Lib.hid hr4
            have hcap4 := hr4.2.1
            clear hr4 hj hb4 hp hq hp3 hq2 hq3 hout hy
            go_wp2
            go_roundw
            case rel =>
              refine ⟨k + 1, m + 2 + 2 + n', cj, Aj, out ++ encF ((tn : Int), da), by omega, by go_num, rfl, ?_, hb5, by omega, ?_⟩
              · have := HR4.out
                have e : ([out, putL tn 2, putL n' 2, da] : List (List UInt8)).flatten = out ++ encF ((tn : Int), da) := by simp [encF, HYL.out]
                rw [e] at this
                exact this
              · have := HW3.out
                rw [if_pos hsm] at this
                exact this
            case measure => simp [intOf]; omega
          · go_wp2_with fail
            have hgr : Below wr.heap.size wr (wr.alloc (.cells #[.int .i64 tn, .slice A' n' c'] 38)) := (Below.refl _ _).alloc (Nat.le_refl _) _
            go_roundw
            case rel =>
              refine ⟨k + 1, m, cc, AA, out, by omega, by go_num, rfl, hout.stays hgr, hbr.trans (hgr.mono hsz), hm, ?_⟩
              have := HW3.out
              rw [if_neg hsm] at this
              exact this
            case measure => simp [intOf]; omega
    · obtain rfl : k = n := by omega
      have hw2 := hw.out
      rw [List.drop_of_length_le (by rw [HL.out]; exact Nat.le_refl _), writeL, hout.len] at hw2
      have hok := hout.le
      have hoc := hout.cap
      by_cases hbig : 65535 < m
      · rw [if_pos hbig] at hw2
        subst hw2
        go_wp2
        go_ret2
        exact ⟨none, 0, 0, rfl, Bytes.nil _ _ _ (by decide), hbr⟩
      · rw [if_neg hbig] at hw2
        subst hw2
        go_wp2
        go_ret2
        exact ⟨AA, m, cc, rfl, hout, hbr⟩
end Go.Proofs.Ytofadjcphaehcaa
