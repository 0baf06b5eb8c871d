/- The reference's Encode of extension fields. -/
import Derived.Test.YtofadjcphaehcaaExtB
import Derived.Test.YtofadjcphaehcaaRefJoin
namespace Go.Proofs.Ytofadjcphaehcaa
open Go.RowKit

/-- What the first loop of the reference keeps. -/
def RefIs (fs : List (Int × List UInt8)) (k T : Nat) : Prop := errX (fs.take k) = 0 ∧ T = totX (fs.take k) ∧ T ≤ 1232 * k
theorem RefIs.next {fs : List (Int × List UInt8)} {k T sz : Nat} (h : RefIs fs k T) (hk : k < fs.length) (he : (sizeX (fldT fs k, fldD fs k)).2 = 0) (hs : (sizeX (fldT fs k, fldD fs k)).1 = sz) : RefIs fs (k + 1) (T + sz) := by
  obtain ⟨h1, h2, h3⟩ := h
  obtain ⟨a1, a2, a3, a4⟩ := sizeX_ok he
  rw [hs] at a4
  have ht := take_fld fs k hk
  simp only [] at a3 a4
  refine ⟨by rw [ht, errX_append _ _ h1, errX, if_pos he]; rfl, ?_, by omega⟩
  rw [ht, totX_append, totX, totX, h2, a4]; rfl
theorem RefIs.done {fs : List (Int × List UInt8)} {k T : Nat} (h : RefIs fs k T) (hk : fs.length = k) : encodeX fs = if 24 < k then ([], 8) else if 1232 < T then ([], 2) else (fs.flatMap encX, 0) := by
  obtain ⟨h1, h2, h3⟩ := h
  rw [List.take_of_length_le (by omega)] at h1 h2
  rw [encodeX, if_pos h1, hk, h2]
theorem size_at {fs : List (Int × List UInt8)} {k : Nat} (h : errX fs = 0) (hk : k < fs.length) : (sizeX (fldT fs k, fldD fs k)).2 = 0 := by
  rw [← fld_eq fs k hk]; exact errX_ok fs h _ (List.getElem_mem hk)
theorem enc_zeros (t : Nat) (d : List UInt8) (n sz q : Nat) (hd : d.length = n) (hs : sz = exSz n) (hq : 4 + n + q = sz) : ([putL t 2, putL sz 2, d] : List (List UInt8)).flatten ++ List.replicate q 0 = encX ((t : Int), d) := by
  rw [encX]
  simp only [Int.toNat_natCast]
  rw [hd, ← hs, show sz - (4 + n) = q by omega]
  simp
theorem mo_le {w : World} {B k mo co : Nat} {AO : Option Addr} {fs : List (Int × List UInt8)} (h : w.ownsRow B 5 1 (.slice AO mo co) mo (((fs.take k).flatMap encX).map byteV)) (ht : totX fs ≤ 1232) : mo ≤ 1232 := by
  have h1 := h.1
  rw [List.length_map, totX_flat, Nat.mul_one] at h1
  have h2 : totX fs = totX (fs.take k) + totX (fs.drop k) := by rw [← totX_append, List.take_append_drop]
  omega
theorem lists_blk3 {w : World} {g T : Nat} {A1 A2 A3 : Option Addr} {n1 c1 n2 c2 n3 c3 : Nat} {l1 l2 l3 : List UInt8} (hB : Blk w g T #[.slice A1 n1 c1, .slice A2 n2 c2, .slice A3 n3 c3]) (h1 : Bytes w A1 n1 c1 l1) (h2 : Bytes w A2 n2 c2 l2) (h3 : Bytes w A3 n3 c3 l3) : Lists w (some ⟨g, 0, none⟩) 3 3 [l1, l2, l3] := by
  refine ⟨[.slice A1 n1 c1, .slice A2 n2 c2, .slice A3 n3 c3], ⟨rfl, Nat.le_refl _, by decide, fun i u hu => ⟨g, 0, rfl, ?_⟩⟩, rfl, fun i l hi => ?_⟩
  · rw [Nat.zero_add, hB.cell i]; simpa using hu
  · match i, hi with
    | 0, hi => simp at hi; subst hi; exact ⟨_, _, _, rfl, h1⟩
    | 1, hi => simp at hi; subst hi; exact ⟨_, _, _, rfl, h2⟩
    | 2, hi => simp at hi; subst hi; exact ⟨_, _, _, rfl, h3⟩
set_option maxRecDepth 100000 in
set_option maxHeartbeats 4000000 in
theorem refEncode_any (A : Option Addr) (n c : Nat) (fs : List (Int × List UInt8)) (w : World) (hv : FldL w A n c fs) (hd : ∀ k, (fldD fs k).length ≤ 100000) (hn : n ≤ 1000) :
    Calls Try.prog 49 #[.slice A n c] w fun e w' => ∃ A' n' c', e = .returned (.tuple #[.slice A' n' c', .int .i64 (encodeX fs).2]) ∧ Bytes w' A' n' c' (encodeX fs).1 ∧ Below w.heap.size w w' := by
  obtain ⟨i0, hi, hz0, hz1, hz2⟩ := info_parts infoByteA
  have hcap := hv.cap
  have hle := hv.le
  have HL := Lib.hid hv.len
  have HV := Lib.hid hv
  have HD := Lib.hid hd
  obtain ⟨R, hR⟩ : ∃ R, encodeX fs = R := ⟨_, rfl⟩
  rw [hR]
  have HR := Lib.hid hR
  clear hv hR hd
  go_enter Try.func49, Try.ntmps49
  go_wp2
  go_loopw [4, 5] (fun s i wr => ∃ (k T : Nat), k ≤ n ∧ i = .int .i64 k ∧ s = .int .i64 T ∧ Hid (RefIs fs k T) ∧ Below w.heap.size w wr) (fun _ i _ => n - (intOf i).toNat)
  case atStart => exact ⟨0, 0, Nat.zero_le _, rfl, rfl, ⟨rfl, rfl, Nat.zero_le _⟩, Below.refl _ _⟩
  case round =>
    obtain ⟨k, T, hk, rfl, rfl, HE, hbr⟩ := hrel
    have RW := Lib.hid hbr
    have hz_wr := hbr.size
    have tb : T ≤ 1232 * k := HE.out.2.2
    by_cases hkn : k < n
    ·
      have hkl : Hid (k < fs.length) := by rw [Hid, HL.out]; exact hkn
      have hki : (k : Int) < (n : Int) := by omega
      obtain ⟨bb, off, A', n', c', rfl, hc0, hc1, hy⟩ := (HV.out.stays hbr).at_ hkn
      have hyl := hy.len
      have hyd : n' ≤ 100000 := by rw [← hyl]; exact HD.out k
      have HY := Lib.hid hy
      have HYL := Lib.hid hyl
      have yl := hy.le
      have yc := hy.cap
      clear hy hyl hbr
      obtain ⟨sz, hsz⟩ : ∃ sz, (sizeX (fldT fs k, fldD fs k)).1 = sz := ⟨_, rfl⟩
      obtain ⟨er, her⟩ : ∃ er, (sizeX (fldT fs k, fldD fs k)).2 = er := ⟨_, rfl⟩
      have HSZ := Lib.hid hsz
      have HER := Lib.hid her
      clear hsz her
      obtain ⟨t, ht⟩ : ∃ t, fldT fs k = t := ⟨_, rfl⟩
      obtain ⟨d, hd⟩ : ∃ d, fldD fs k = d := ⟨_, rfl⟩
      rw [ht] at hc0 HSZ HER
      rw [hd] at HY HYL HSZ HER
      have HT := Lib.hid ht
      have HDD := Lib.hid hd
      clear ht hd
      go_wp2_with fail
      refine (refSizeE_any t A' n' c' d _ HYL.out (by omega)).mono ?_
      rintro e y1 ⟨rfl, hb⟩
      have hbx : Below wr.heap.size wr y1 := below_via (by go_grown) hb (by first | (simp; done) | (simp; omega))
      have HY := Lib.hid (HY.out.stays hbx)
      have R2 := Lib.hid (RW.out.trans (hbx.mono hz_wr))
      have hz_y1 := R2.out.size
      clear hb hbx  RW hz_wr
      rw [HSZ.out, HER.out]
      by_cases hne : ¬ er = 0
      ·
        have HN := Lib.hid (encX_err HE.out.1 hkl.out (by rw [HT.out, HDD.out]; exact HER.out) hne)
        have e1 : (er == 0) = false := by simpa using hne
        have e2 : (er != 0) = true := by simp [bne, e1]
        clear hne
        go_wp2
        go_returns
        exact ⟨none, 0, 0, by rw [← HR.out, HN.out]; rfl, by rw [← HR.out, HN.out]; exact Bytes.nil _ _ _ (by decide), R2.out⟩
      obtain rfl : er = 0 := by omega
      clear hne
      have HNX := Lib.hid (HE.out.next (sz := sz) hkl.out (by rw [HT.out, HDD.out]; first | done | exact HER.out) (by rw [HT.out, HDD.out]; first | done | exact HSZ.out))
      have tb2 : T + sz ≤ 1232 * (k + 1) := HNX.out.2.2
      go_wp2
      go_roundw
      case rel => exact ⟨k + 1, T + sz, by omega, by go_num, by go_num, HNX, R2.out⟩
      case measure => simp [intOf]; omega
    · obtain rfl : k = n := by omega
      have HF := Lib.hid (HE.out.done HL.out)
      rw [HR.out] at HF
      by_cases h24 : 24 < k
      · have q1 : (24 : Int) < (k : Int) := by omega
        have HQ : Hid (R = ([], 8)) := by rw [Hid, HF.out, if_pos h24]
        go_wp2
        go_returns
        exact ⟨none, 0, 0, by rw [HQ.out]; rfl, by rw [HQ.out]; exact Bytes.nil _ _ _ (by decide), hbr⟩
      have q1 : ¬ (24 : Int) < (k : Int) := by omega
      by_cases hT : 1232 < T
      · have q2 : (1232 : Int) < (T : Int) := by omega
        have HQ : Hid (R = ([], 2)) := by rw [Hid, HF.out, if_neg h24, if_pos hT]
        go_wp2
        go_returns
        exact ⟨none, 0, 0, by rw [HQ.out]; rfl, by rw [HQ.out]; exact Bytes.nil _ _ _ (by decide), hbr⟩
      have q2 : ¬ (1232 : Int) < (T : Int) := by omega
      have HQ : Hid (R = (fs.flatMap encX, 0)) := by rw [Hid, HF.out, if_neg h24, if_neg hT]
      have HER0 : Hid (errX fs = 0) := by have := HE.out.1; rwa [List.take_of_length_le (by rw [HL.out]; exact Nat.le_refl _)] at this
      have HTT : Hid (totX fs ≤ 1232) := by have := HE.out.2.1; rw [List.take_of_length_le (by rw [HL.out]; exact Nat.le_refl _)] at this; unfold Hid; omega
      clear HF HE tb
      go_wp2_with fail
      go_loopw [8, 9] (fun s i wr => ∃ (k2 mo co : Nat) (AO : Option Addr), k2 ≤ k ∧ i = .int .i64 k2 ∧ s = .slice AO mo co ∧ Hid (wr.ownsRow w.heap.size 5 1 (.slice AO mo co) mo (((fs.take k2).flatMap encX).map byteV)) ∧ Below w.heap.size w wr) (fun _ i _ => k - (intOf i).toNat)
      case atStart => exact ⟨0, 0, 0, _, Nat.zero_le _, rfl, rfl, World.ownsRow_lit (base := w.heap.size) (e := 5) (size := 1) wr #[] 0 hz_wr (by decide) rfl, by go_grown⟩
      case round =>
        clear hbr RW hz_wr
        obtain ⟨k2, mo, co, AO, hk2, rfl, rfl, HO, hbr⟩ := hrel
        have RW := Lib.hid hbr
        have hz_wr := hbr.size
        by_cases hkn : k2 < k
        ·
          have hkl : Hid (k2 < fs.length) := by rw [Hid, HL.out]; exact hkn
          have hki : (k2 : Int) < (k : Int) := by omega
          obtain ⟨bb, off, A', n', c', rfl, hc0, hc1, hy⟩ := (HV.out.stays hbr).at_ hkn
          have hyl := hy.len
          have hyd : n' ≤ 100000 := by rw [← hyl]; exact HD.out k2
          have HY := Lib.hid hy
          have HYL := Lib.hid hyl
          have yl := hy.le
          have yc := hy.cap
          clear hy hyl hbr
          obtain ⟨sz, hsz⟩ : ∃ sz, (sizeX (fldT fs k2, fldD fs k2)).1 = sz := ⟨_, rfl⟩
          obtain ⟨er, her⟩ : ∃ er, (sizeX (fldT fs k2, fldD fs k2)).2 = er := ⟨_, rfl⟩
          have HSZ := Lib.hid hsz
          have HER := Lib.hid her
          clear hsz her
          obtain ⟨t, ht⟩ : ∃ t, fldT fs k2 = t := ⟨_, rfl⟩
          obtain ⟨d, hd⟩ : ∃ d, fldD fs k2 = d := ⟨_, rfl⟩
          rw [ht] at hc0 HSZ HER
          rw [hd] at HY HYL HSZ HER
          have HT := Lib.hid ht
          have HDD := Lib.hid hd
          clear ht hd
          have RR := Lib.hid (Below.refl wr.heap.size wr)
          have HY0 := Lib.hid HY.out
          have RW0 := Lib.hid RW.out
          go_wp2_with fail
          refine (refSizeE_any t A' n' c' d _ HYL.out (by omega)).mono ?_
          rintro e y3 ⟨rfl, hb⟩
          have hbx : Below wr.heap.size wr y3 := below_via (by go_grown) hb (by first | (simp; done) | (simp; omega))
          have HY := Lib.hid (HY.out.stays hbx)
          have RR := Lib.hid (RR.out.trans (hbx.mono RR.out.size))
          have R4 := Lib.hid (RW.out.trans (hbx.mono hz_wr))
          have hz_y3 := R4.out.size
          clear hb hbx  RW hz_wr
          rw [HSZ.out, HER.out]
          obtain rfl : er = 0 := by rw [← HER.out, ← HT.out, ← HDD.out]; exact size_at HER0.out hkl.out
          obtain ⟨n4, n5, n6, n7⟩ := sizeX_ok HER.out
          have N7 := Lib.hid n7
          have n6b : sz ≤ 1232 := by have := N7.out; rw [HSZ.out] at this; rw [this]; exact n6
          have N1 : Hid (sz = exSz n') := by have := N7.out; rw [HSZ.out] at this; rw [Hid, this]; simp only [HYL.out]
          clear n7 n6
          simp only [] at n4 n5
          have n9 : 4 + n' ≤ sz := by have h1 := exSz_ge n'; have h2 := N1.out; omega
          obtain ⟨tn, rfl⟩ := Int.eq_ofNat_of_zero_le n4
          have wt : IntKind.u64.wrap (tn : Int) = (tn : Int) := IntWalk.u64_in _ (by omega)
          have wz : IntKind.u64.wrap (sz : Int) = (sz : Int) := IntWalk.u64_in _ (by omega)
          have HC0 := Lib.hid hc0
          have HC1 := Lib.hid hc1
          clear hc0 hc1
          go_upto_region 18 with fail
          refine zBegin (Z := []) (S := fun w' => Below wr.heap.size wr w') (by kernel_rfl) ?pz1 ((RR.out).drew) (fun hPQ wd hbd hHeld => ?sz1)
          case pz1 => (repeat (with_reducible first | refine PQ.then ?_ | refine PQ.block ?_)); exact fun _ _ d _ _ h => by cases d <;> exact h
          case sz1 =>
            clear hbd
            refine zVal (i := 0) (d := (some 53)) (v := ?_) rfl rfl (by kernel_rfl) (by kernel_rfl) (by kernel_rfl) (by kernel_rfl) hPQ (by rfl) (fun wq hSw => ?_) hHeld ?_
            rotate_left 1
            · have cS0 := cell_stays hSw HC0.out; have cS1 := cell_stays hSw HC1.out; go_simp; try with_reducible rfl
            try simp only [Act.put, List.setIfInBounds_toArray, List.set_cons_zero, List.set_cons_succ]
            refine zVal (i := 1) (d := (some 54)) (v := ?_) rfl rfl (by kernel_rfl) (by kernel_rfl) (by kernel_rfl) (by kernel_rfl) hPQ (by rfl) (fun wq hSw => ?_) hHeld ?_
            rotate_left 1
            · have cS0 := cell_stays hSw HC0.out; have cS1 := cell_stays hSw HC1.out; go_simp; try with_reducible rfl
            try simp only [Act.put, List.setIfInBounds_toArray, List.set_cons_zero, List.set_cons_succ]
            refine zVal (i := 2) (d := (some 55)) (v := ?_) rfl rfl (by kernel_rfl) (by kernel_rfl) (by kernel_rfl) (by kernel_rfl) hPQ (by rfl) (fun wq hSw => ?_) hHeld ?_
            rotate_left 1
            · have cS0 := cell_stays hSw HC0.out; have cS1 := cell_stays hSw HC1.out; go_simp; try with_reducible rfl
            try simp only [Act.put, List.setIfInBounds_toArray, List.set_cons_zero, List.set_cons_succ]
            refine zVal (i := 3) (d := (some 56)) (v := ?_) rfl rfl (by kernel_rfl) (by kernel_rfl) (by kernel_rfl) (by kernel_rfl) hPQ (by rfl) (fun wq hSw => ?_) hHeld ?_
            rotate_left 1
            · have cS0 := cell_stays hSw HC0.out; have cS1 := cell_stays hSw HC1.out; go_simp; try with_reducible rfl
            try simp only [Act.put, List.setIfInBounds_toArray, List.set_cons_zero, List.set_cons_succ]
            refine zVal (i := 4) (d := (some 57)) (v := ?_) rfl rfl (by kernel_rfl) (by kernel_rfl) (by kernel_rfl) (by kernel_rfl) hPQ (by rfl) (fun wq hSw => ?_) hHeld ?_
            rotate_left 1
            · have cS0 := cell_stays hSw HC0.out; have cS1 := cell_stays hSw HC1.out; go_simp; try with_reducible rfl
            try simp only [Act.put, List.setIfInBounds_toArray, List.set_cons_zero, List.set_cons_succ]
            refine zVal (i := 5) (d := (some 58)) (v := ?_) rfl rfl (by kernel_rfl) (by kernel_rfl) (by kernel_rfl) (by kernel_rfl) hPQ (by rfl) (fun wq hSw => ?_) hHeld ?_
            rotate_left 1
            · have cS0 := cell_stays hSw HC0.out; have cS1 := cell_stays hSw HC1.out; go_simp; try with_reducible rfl
            try simp only [Act.put, List.setIfInBounds_toArray, List.set_cons_zero, List.set_cons_succ]
            refine zVal (i := 7) (d := (some 60)) (v := ?_) rfl rfl (by kernel_rfl) (by kernel_rfl) (by kernel_rfl) (by kernel_rfl) hPQ (by rfl) (fun wq hSw => ?_) hHeld ?_
            rotate_left 1
            · have cS0 := cell_stays hSw HC0.out; have cS1 := cell_stays hSw HC1.out; go_simp; try with_reducible rfl
            try simp only [Act.put, List.setIfInBounds_toArray, List.set_cons_zero, List.set_cons_succ]
            refine zVal (i := 8) (d := (some 61)) (v := ?_) rfl rfl (by kernel_rfl) (by kernel_rfl) (by kernel_rfl) (by kernel_rfl) hPQ (by rfl) (fun wq hSw => ?_) hHeld ?_
            rotate_left 1
            · have cS0 := cell_stays hSw HC0.out; have cS1 := cell_stays hSw HC1.out; go_simp; try with_reducible rfl
            try simp only [Act.put, List.setIfInBounds_toArray, List.set_cons_zero, List.set_cons_succ]
            refine zVal (i := 10) (d := (some 63)) (v := ?_) rfl rfl (by kernel_rfl) (by kernel_rfl) (by kernel_rfl) (by kernel_rfl) hPQ (by rfl) (fun wq hSw => ?_) hHeld ?_
            rotate_left 1
            · have cS0 := cell_stays hSw HC0.out; have cS1 := cell_stays hSw HC1.out; go_simp; try with_reducible rfl
            try simp only [Act.put, List.setIfInBounds_toArray, List.set_cons_zero, List.set_cons_succ]
            refine zVal (i := 11) (d := (some 64)) (v := ?_) rfl rfl (by kernel_rfl) (by kernel_rfl) (by kernel_rfl) (by kernel_rfl) hPQ (by rfl) (fun wq hSw => ?_) hHeld ?_
            rotate_left 1
            · have cS0 := cell_stays hSw HC0.out; have cS1 := cell_stays hSw HC1.out; go_simp; try with_reducible rfl
            try simp only [Act.put, List.setIfInBounds_toArray, List.set_cons_zero, List.set_cons_succ]
            refine zVal (i := 12) (d := (some 65)) (v := ?_) rfl rfl (by kernel_rfl) (by kernel_rfl) (by kernel_rfl) (by kernel_rfl) hPQ (by rfl) (fun wq hSw => ?_) hHeld ?_
            rotate_left 1
            · have cS0 := cell_stays hSw HC0.out; have cS1 := cell_stays hSw HC1.out; go_simp; try with_reducible rfl
            try simp only [Act.put, List.setIfInBounds_toArray, List.set_cons_zero, List.set_cons_succ]
            refine zVal (i := 13) (d := (some 66)) (v := ?_) rfl rfl (by kernel_rfl) (by kernel_rfl) (by kernel_rfl) (by kernel_rfl) hPQ (by rfl) (fun wq hSw => ?_) hHeld ?_
            rotate_left 1
            · have cS0 := cell_stays hSw HC0.out; have cS1 := cell_stays hSw HC1.out; go_simp; try with_reducible rfl
            try simp only [Act.put, List.setIfInBounds_toArray, List.set_cons_zero, List.set_cons_succ]
            refine zVal (i := 14) (d := (some 67)) (v := ?_) rfl rfl (by kernel_rfl) (by kernel_rfl) (by kernel_rfl) (by kernel_rfl) hPQ (by rfl) (fun wq hSw => ?_) hHeld ?_
            rotate_left 1
            · have cS0 := cell_stays hSw HC0.out; have cS1 := cell_stays hSw HC1.out; go_simp; try with_reducible rfl
            try simp only [Act.put, List.setIfInBounds_toArray, List.set_cons_zero, List.set_cons_succ]
            refine zAlone (j := 6) (by kernel_rfl) ?_
            refine zOpCall (j := 6) (d := (some 59)) (R := fun v w' => ∃ Ap cp, v = .slice Ap 2 cp ∧ Bytes w' Ap 2 cp (putL tn 2) ∧ Below wd.heap.size wd w') rfl rfl (by rfl) ?rz2 ((refPut_reads tn 2 (by decide) _).mono fun e q hq => by obtain ⟨Ap, cp, h1, h2, h3⟩ := hq; exact ⟨_, h1, Ap, cp, rfl, h2, h3⟩) (fun v u1 hRv => ?tz2)
            case rz2 => go_simp
            case tz2 =>
              obtain ⟨Ap, cp, rfl, hp, hb1⟩ := hRv
              refine ⟨.inr (hHeld.trans (hb1.mono hHeld.size)), ?_⟩
              try simp only [Act.put, List.setIfInBounds_toArray, List.set_cons_zero, List.set_cons_succ]
              have hHeld := hHeld.trans (hb1.mono hHeld.size)
              refine zAlone (j := 9) (by kernel_rfl) ?_
              refine zOpCall (j := 9) (d := (some 62)) (R := fun v w' => ∃ Ap cp, v = .slice Ap 2 cp ∧ Bytes w' Ap 2 cp (putL sz 2) ∧ Below u1.heap.size u1 w') rfl rfl (by rfl) ?rz3 ((refPut_reads sz 2 (by decide) _).mono fun e q hq => by obtain ⟨Ap, cp, h1, h2, h3⟩ := hq; exact ⟨_, h1, Ap, cp, rfl, h2, h3⟩) (fun v u2 hRv => ?tz3)
              case rz3 => go_simp
              case tz3 =>
                obtain ⟨Aq, cq, rfl, hq, hb2⟩ := hRv
                refine ⟨.inr (hHeld.trans (hb2.mono hHeld.size)), ?_⟩
                try simp only [Act.put, List.setIfInBounds_toArray, List.set_cons_zero, List.set_cons_succ]
                have hHeld := hHeld.trans (hb2.mono hHeld.size)
                have hp := hp.stays hb2
                refine zAlone (j := 15) (by kernel_rfl) ?_
                refine zOpNew (j := 15) (d := (some 68)) (T := 23) (z := #[.slice Ap 2 cp, .slice Aq 2 cq, .slice A' n' c']) (val := fun g => .slice (some ⟨g, 0, none⟩) 3 3) rfl rfl (by rfl) ?rz4 (fun g3 u3 g3_ge g3_lt B3 hb3 => ⟨.inr (hHeld.trans (hb3.mono hHeld.size)), ?tz4⟩)
                case rz4 => go_simp; try with_reducible rfl
                case tz4 =>
                  try simp only [Act.put, List.setIfInBounds_toArray, List.set_cons_zero, List.set_cons_succ]
                  have hHeld := hHeld.trans (hb3.mono hHeld.size)
                  have hp := hp.stays hb3
                  have hq := hq.stays hb3
                  have hl3 : Lists u3 (some ⟨g3, 0, none⟩) 3 3 [putL tn 2, putL sz 2, d] := lists_blk3 B3 hp hq (HY0.out.stays hHeld)
                  have hfl : ([putL tn 2, putL sz 2, d] : List (List UInt8)).flatten.length = 4 + n' := by simp [putL_length, HYL.out]; omega
                  have HFL := Lib.hid hfl
                  clear hfl
                  refine zAlone (j := 16) (by kernel_rfl) ?_
                  refine zOpCall (j := 16) (d := (some 69)) (R := fun v w' => ∃ Ap cp, v = .slice Ap (4 + n') cp ∧ w'.ownsRow u3.heap.size 5 1 (.slice Ap (4 + n') cp) (4 + n') (([putL tn 2, putL sz 2, d] : List (List UInt8)).flatten.map byteV) ∧ Below u3.heap.size u3 w') rfl rfl (by rfl) ?rz5 ((refJoin_any _ _ _ [putL tn 2, putL sz 2, d] _ hl3 (4 + n') HFL.out (by omega)).mono fun e q hq => by obtain ⟨Ap, cp, h1, h2, h3⟩ := hq; exact ⟨_, h1, Ap, cp, rfl, h2, h3⟩) (fun v u4 hRv => ?tz5)
                  case rz5 => go_simp
                  case tz5 =>
                    obtain ⟨AJ, cJ, rfl, hj, hb4⟩ := hRv
                    refine ⟨.inr (hHeld.trans (hb4.mono hHeld.size)), ?_⟩
                    try simp only [Act.put, List.setIfInBounds_toArray, List.set_cons_zero, List.set_cons_succ]
                    have hs3 := hHeld.size
                    have hHeld := hHeld.trans (hb4.mono hHeld.size)
                    refine zVal (i := 17) (d := (some 12)) (v := ?_) rfl rfl (by kernel_rfl) (by kernel_rfl) (by kernel_rfl) (by kernel_rfl) hPQ (by rfl) (fun wq hSw => ?_) hHeld ?_
                    rotate_left 1
                    · have cS0 := cell_stays hSw HC0.out; have cS1 := cell_stays hSw HC1.out; go_simp; try with_reducible rfl
                    try simp only [Act.put, List.setIfInBounds_toArray, List.set_cons_zero, List.set_cons_succ]
                    refine zDone (by kernel_rfl) ?_ _
                    have HJ := Lib.hid (own_more (B' := wr.heap.size) hj hs3)
                    have HB4 := Lib.hid hHeld
                    clear hHeld hp hq hl3 B3 hj hs3 hb4 hb3 hb2 hb1 g3_ge g3_lt
                    go_wp2_with fail
                    obtain ⟨wv, rfl⟩ : ∃ wv : World, wv = wr := ⟨_, rfl⟩
                    go_loopw [12] (fun s wy => ∃ (q cq : Nat) (AQ : Option Addr), 4 + n' + q ≤ sz ∧ s = .slice AQ (4 + n' + q) cq ∧ Hid (wy.ownsRow wv.heap.size 5 1 (.slice AQ (4 + n' + q) cq) (4 + n' + q) ((([putL tn 2, putL sz 2, d] : List (List UInt8)).flatten ++ List.replicate q 0).map byteV)) ∧ Hid (Below wv.heap.size wv wy)) (fun s _ => sz - slLen s)
                    case atStart => exact ⟨0, cJ, AJ, by omega, rfl, by have h := HJ.out; unfold Hid; simpa using h, HB4⟩
                    case round =>
                      obtain ⟨q, cq, AQ, hq, rfl, HQ2, HB⟩ := hrel
                      have rq := own_rd HQ2.out
                      have cq1 := rq.2.1
                      have cq2 := rq.2.2.1
                      have cq3 : cq ≤ 9223372036854775807 := by unfold maxLen at cq2; omega
                      have HRQ := Lib.hid rq
                      clear rq cq2
                      by_cases hqs : 4 + n' + q < sz
                      ·
                        have qi : (4 : Int) + (n' : Int) + (q : Int) < (sz : Int) := by omega
                        have hzs := HB.out.size
                        go_wp2_with (at_builtin; refine wpList_append_rd rfl _ _ 23 rfl i0 (.int .u8 0) 1 Try.underlying23 hi hz0 hz1 hz2 rfl (by decide) rfl (own_alloc HQ2.out _) rfl (rd_one _ (byteV 0) _) (by intro u hu; simp at hu; subst hu; rfl) (by unfold maxLen; omega) (by omega) (by simp; omega) ?_; intro A8 c8 w8 hown8 hg8 hb8)
                        have B8 := Lib.hid ((HB.out.alloc hzs (.cells #[byteV 0] 5)).trans hb8)
                        have H8 : Hid (w8.ownsRow wv.heap.size 5 1 (.slice A8 (4 + n' + (q + 1)) c8) (4 + n' + (q + 1)) ((([putL tn 2, putL sz 2, d] : List (List UInt8)).flatten ++ List.replicate (q + 1) 0).map byteV)) := by
                          rw [List.replicate_succ', ← List.append_assoc, List.map_append]
                          unfold Hid; exact hown8
                        clear hown8 hg8 hb8
                        go_wp2
                        go_roundw
                        case rel => exact ⟨q + 1, c8, A8, by omega, rfl, H8, B8⟩
                        case measure => simp [slLen]; omega
                      · have qe : 4 + n' + q = sz := by omega
                        have qi : ¬ (4 : Int) + (n' : Int) + (q : Int) < (sz : Int) := by omega
                        have HE5 := Lib.hid (enc_zeros tn d n' sz q HYL.out N1.out qe)
                        have HRQ2 : Hid (Rd wr 1 AQ (4 + n' + q) cq ((encX ((tn : Int), d)).map byteV)) := by rw [← HE5.out]; exact HRQ.out
                        have HQE := Lib.hid qe
                        have HMO := Lib.hid (mo_le HO.out HTT.out)
                        have hc1 : mo + (4 + n' + q) ≤ maxLen := by have := HMO.out; unfold maxLen; omega
                        have hc2 : (mo + (4 + n' + q)) * 1 ≤ 140737488355328 := by have := HMO.out; omega
                        clear qe hqs
                        have HOX := Lib.hid (own_below HO.out HB.out)
                        have RX := RW0.out.trans (HB.out.mono RW0.out.size)
                        have hzx := RX.size
                        go_wp2_with (at_builtin; refine wpList_append_rd rfl _ _ 23 rfl i0 (.int .u8 0) 1 Try.underlying23 hi hz0 hz1 hz2 rfl (by decide) rfl HOX.out rfl HRQ2.out (oneCell_bytes _) hc1 hc2 hzx ?_; intro A8 c8 w8 hown8 hg8 hb8)
                        have R8 := RX.trans hb8
                        have HN8 : Hid (w8.ownsRow w.heap.size 5 1 (.slice A8 (mo + (4 + n' + q)) c8) (mo + (4 + n' + q)) (((fs.take (k2 + 1)).flatMap encX).map byteV)) := by
                          have e : (fs.take (k2 + 1)).flatMap encX = (fs.take k2).flatMap encX ++ encX ((tn : Int), d) := by rw [take_fld fs k2 hkl.out, List.flatMap_append, HT.out, HDD.out]; simp
                          unfold Hid; rw [e, List.map_append]; exact hown8
                        clear hown8 hg8 hb8
                        go_wp2
                        go_roundw
                        case rel => exact ⟨k2 + 1, _, c8, A8, by omega, by go_num, rfl, HN8, R8⟩
                        case measure => simp [intOf]; omega
        · obtain rfl : k2 = k := by omega
          have HB : Hid (Bytes wr AO mo co (fs.flatMap encX)) := by have := own_rd HO.out; rw [List.take_of_length_le (by rw [HL.out]; exact Nat.le_refl _)] at this; exact this
          go_wp2
          go_returns
          exact ⟨AO, mo, co, by rw [HQ.out]; rfl, by rw [HQ.out]; exact HB.out, hbr⟩
end Go.Proofs.Ytofadjcphaehcaa
