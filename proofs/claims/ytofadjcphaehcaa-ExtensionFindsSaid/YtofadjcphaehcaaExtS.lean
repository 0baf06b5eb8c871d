/- ExtensionFinds: the walk. -/
import Derived.Test.YtofadjcphaehcaaExtR
namespace Go.Proofs.Ytofadjcphaehcaa
open Go.RowKit

set_option maxRecDepth 100000 in
set_option maxHeartbeats 4000000 in
theorem extensionFinds_walk (A0 : Option Addr) (n0 c0 : Nat) (la : List (Int × List UInt8)) (kd at0 : Int) (w : World) (ha : FldL w A0 n0 c0 la) :
    Calls Try.prog 5 #[.slice A0 n0 c0, .int .i64 kd, .int .i64 at0] w fun e w' => e = .returned (.bool true) ∧ Below w.heap.size w w' := by
  have VA := Lib.hid ha
  clear ha
  obtain ⟨q, hq⟩ : ∃ q : Nat, kd % 4 = (q : Int) := ⟨(kd % 4).toNat, by omega⟩
  have hq4 : q < 4 := by omega
  have HKD := Lib.hid (kd4_at kd q hq hq4)
  have HQ := Lib.hid hq
  have hqi : (q : Int) < 4 := by omega
  obtain ⟨ty, hty⟩ : ∃ ty, kd4 kd = ty := ⟨_, rfl⟩
  rw [hty] at HKD
  clear hq hty
  go_enter Try.func5, Try.ntmps5
  obtain ⟨F, hF⟩ : ∃ F, fieldsW la = F := ⟨_, rfl⟩
  have HXF : Hid (okX F) := by rw [← hF]; exact okX_W la
  have hF4 : F.length ≤ 4 := by rw [← hF]; exact fieldsW_len la
  go_wp2_with fail
  refine (fields_any2 _ _ _ _ _ VA.out).mono ?_
  rintro e y1 ⟨FA, fn, fc, rfl, h1, hb⟩
  have hbx : Below w.heap.size w y1 := below_via (by go_grown) hb (by first | (simp; done) | (simp; omega))
  have VA := Lib.hid (VA.out.stays hbx)
  have VF := Lib.hid h1
  have R2 := Lib.hid hbx
  have hz_y1 := R2.out.size
  clear hb hbx h1
  rw [hF] at VF
  clear hF
  have HFl := Lib.hid VF.out.len
  have hfn : fn ≤ 4 := by rw [← HFl.out]; exact hF4
  have hfc := VF.out.cap
  have hfle := VF.out.le
  have kL := ((Blk.new y1 3 #[.int .i64 260, .int .i64 516, .int .i64 772, .int .i64 8192]).cell q).trans HKD.out
  go_wp2_with fail
  refine (within_to kd 4 q HQ.out (by decide) (by decide) _).mono ?_
  rintro e q_ ⟨rfl, rfl⟩
  go_wp2_with fail
  refine (find_any _ _ _ _ ty _ (VF.out.stays (by go_grown)) (by omega)).mono ?_
  rintro e y3 ⟨PA, pn, pc, rfl, h1, hb⟩
  have hbx : Below y1.heap.size y1 y3 := below_via (by go_grown) hb (by first | (simp; done) | (simp; omega))
  have VA := Lib.hid (VA.out.stays hbx)
  have VF := Lib.hid (VF.out.stays hbx)
  have VP := Lib.hid h1
  have R4 := Lib.hid (R2.out.trans (hbx.mono hz_y1))
  have hz_y3 := R4.out.size
  clear hb hbx h1 R2 hz_y1
  clear kL
  have HPl := Lib.hid VP.out.len
  have hp1 := VP.out.2.1
  have hp2 : pc ≤ 9223372036854775807 := by have := VP.out.2.2.1; unfold maxLen at this; exact this
  have hpn : pn ≤ 4 := by rw [← HPl.out]; exact Nat.le_trans (findX_le F ty fn) hfn
  go_wp2_with fail
  go_loopw [10, 11] (fun s i wr => ∃ (k x : Nat), k ≤ fn ∧ i = .int .i64 k ∧ s = .int .i64 x ∧ x ≤ k ∧ Hid ((findX F ty k).length = x) ∧ Below y3.heap.size y3 wr) (fun _ i _ => fn - (intOf i).toNat)
  case atStart => exact ⟨0, 0, Nat.zero_le _, rfl, rfl, Nat.le_refl _, rfl, Below.refl _ _⟩
  case round =>
    obtain ⟨k, x, hk, rfl, rfl, hxk, HS, hbr⟩ := hrel
    have RW := Lib.hid (R4.out.trans (hbr.mono hz_y3))
    have hz_wr := RW.out.size
    have RK := Lib.hid hbr
    have VF := Lib.hid (VF.out.stays hbr)
    have VP := Lib.hid (VP.out.stays hbr)
    clear hbr
    by_cases hkn : k < fn
    ·
      have hki : (k : Int) < (fn : Int) := by omega
      obtain ⟨bb, off, A', n', c', rfl, hc0, hc1, hy⟩ := VF.out.at_ hkn
      clear hc1 hy
      obtain ⟨t, ht⟩ : ∃ t, fldT F k = t := ⟨_, rfl⟩
      have HT := Lib.hid ht
      rw [ht] at hc0
      clear ht
      by_cases hte : t = ty
      ·
        subst hte
        have hAt := findX_at (fs := F) (kd := t) (k := k) (m := fn) hkn HT.out
        rw [HS.out, HPl.out] at hAt
        obtain ⟨b1, o1, rfl, hcp⟩ := VP.out.at_ hAt.1
        have hxp : (x : Int) < (pn : Int) := by have := hAt.2; omega
        have ez : ((k : Int) != (k : Int)) = false := by simp [bne]
        have et : (t == t) = true := by simp
        have HS2 : Hid ((findX F t (k + 1)).length = x + 1) := by rw [Hid, findX_yes HT.out, List.length_append, HS.out]; rfl
        clear hAt
        go_wp2
        go_roundw
        case rel => exact ⟨k + 1, x + 1, by omega, by go_num, by go_num, by omega, HS2, RK.out⟩
        case measure => simp [intOf]; omega
      ·
        have et : (t == ty) = false := by simpa using hte
        have HS2 : Hid ((findX F ty (k + 1)).length = x) := by rw [Hid, findX_no (by rw [HT.out]; exact hte)]; exact HS.out
        clear hte
        go_wp2
        go_roundw
        case rel => exact ⟨k + 1, x, by omega, by go_num, rfl, by omega, HS2, RK.out⟩
        case measure => simp [intOf]; omega
    obtain rfl : k = fn := by omega
    obtain rfl : x = pn := by rw [← HS.out]; exact HPl.out
    have ez : ((x : Int) != (x : Int)) = false := by simp [bne]
    clear RK hkn HS HPl VP HKD HQ
    by_cases h0 : k = 0
    ·
      subst h0
      have hF0 : F = [] := List.eq_nil_of_length_eq_zero HFl.out
      go_wp2_with fail
      refine (extKnown _).mono ?_
      rintro e y5 ⟨rfl, hb⟩
      have hbx : Below wr.heap.size wr y5 := below_via (by go_grown) hb (by first | (simp; done) | (simp; omega))
      have VF := Lib.hid (VF.out.stays hbx)
      have R6 := Lib.hid (RW.out.trans (hbx.mono hz_wr))
      have hz_y5 := R6.out.size
      clear hb hbx  RW hz_wr
      go_wp2_with fail
      refine (sameE_any _ _ _ _ _ _ _ _ _ VF.out (FldL.nil _)).mono ?_
      rintro e y7 ⟨rfl, hb⟩
      have hbx : Below y5.heap.size y5 y7 := below_via (by go_grown) hb (by first | (simp; done) | (simp; omega))
      have VF := Lib.hid (VF.out.stays hbx)
      have R8 := Lib.hid (R6.out.trans (hbx.mono hz_y5))
      have hz_y7 := R8.out.size
      clear hb hbx  R6 hz_y5
      rw [decide_eq_true hF0]
      go_wp2
      go_ret
      exact ⟨rfl, R8.out⟩
    have hk1 : 1 ≤ k := by omega
    have hkz : ¬ (k : Int) = 0 := by omega
    have hkb : ((k : Int) == 0) = false := by simpa using hkz
    obtain ⟨j, hj, hj2⟩ : ∃ j : Nat, at0 % (k : Int) = (j : Int) ∧ j < k := by
      have h1 := Int.emod_nonneg at0 (show (k : Int) ≠ 0 by omega)
      have h2 := Int.emod_lt_of_pos at0 (show (0 : Int) < k by omega)
      exact ⟨(at0 % (k : Int)).toNat, by omega, by omega⟩
    have HJ := Lib.hid hj
    have hji : (j : Int) < (k : Int) := by omega
    have hj0 : (0 : Int) ≤ (j : Int) := by omega
    clear hj h0
    obtain ⟨bb, off, A1, n1, c1, eFA, hc0, hc1, hy⟩ := VF.out.at_ hj2
    subst eFA
    have HC0 := Lib.hid hc0
    have HC1 := Lib.hid hc1
    have HY := Lib.hid hy
    have htr := HXF.out _ (fld_mem F j (by rw [HFl.out]; exact hj2))
    have hd64 := HXF.out.few j
    have hdn := hy.len
    have HT2 := Lib.hid (set_neT (fs := F) (k := j) (t := fldT F j + 1) (d := fldD F j) (by rw [HFl.out]; exact hj2) (by omega))
    have HD2 := Lib.hid (set_neD (fs := F) (k := j) (t := fldT F j) (d := fldD F j ++ [0]) (by rw [HFl.out]; exact hj2) (by intro e; have := congrArg List.length e; simp at this))
    have HDR := Lib.hid (drop_ne (fs := F) (by rw [HFl.out]; omega))
    obtain ⟨t, ht⟩ : ∃ t, fldT F j = t := ⟨_, rfl⟩
    obtain ⟨d, hd⟩ : ∃ d, fldD F j = d := ⟨_, rfl⟩
    rw [ht] at HC0 htr HT2 HD2
    rw [hd] at HY hd64 hdn HT2 HD2
    have t0 : 0 ≤ t := htr.1
    have t1 : t ≤ 65535 := htr.2.1
    have hn1 : n1 ≤ 64 := by rw [← hdn]; exact hd64
    have hn1c := HY.out.le
    have hc1m := HY.out.cap
    clear hc0 hc1 hy htr hd64 hdn ht hd
    have RX := Lib.hid (Below.refl wr.heap.size wr)
    have hq1 : Below wr.heap.size wr (wr.alloc (.cells #[] 38)) := below_alloc1 _ _
    have xG : wr.heap.size ≤ wr.heap.size := RX.out.size
    go_wp2_with (at_builtin; (refine wpList_append_g (vs := .slice (some ⟨wr.heap.size, 0, none⟩) 0 0) (vx := .slice (some ⟨bb, off, none⟩) k fc) rfl _ _ 32 rfl rfl rfl (R := fun v w' => ∃ A8 c8, v = .slice A8 k c8 ∧ FldsA w' wr.heap.size A8 k c8 F ∧ Below wr.heap.size _ w') (by obtain ⟨A8, c8, w8, h1, h2, h3, h4⟩ := run_append_flds VF.out (RX.out.trans (hq1.mono RX.out.size)) (fld_lit _ _ (Nat.le_refl _)) RX.out.size (by omega) (by simp) _; rw [Nat.zero_add] at h1 h2; rw [List.nil_append] at h2; exact ⟨_, w8, h1, A8, c8, rfl, h2, h4⟩) ?_; rintro v wa ⟨Aa, ca, rfl, hO, hb8⟩; have HQa := Lib.hid (hq1.trans hb8); have HOa := Lib.hid hO; clear hO hb8))
    clear hq1
    obtain ⟨g_, eAa, hG⟩ := HOa.out.row (by omega)
    subst eAa
    have HG := Lib.hid hG
    have vG := hG.ge
    have RX := Lib.hid (RX.out.trans (HQa.out.mono RX.out.size))
    have Ra := Lib.hid (RW.out.trans (HQa.out.mono hz_wr))
    have hz_wa := Ra.out.size
    have uG : w.heap.size ≤ g_ := Nat.le_trans hz_wr vG
    clear HQa HOa hG RW hz_wr
    go_wp2_with fail
    refine (within_to at0 k j HJ.out (by omega) (by omega) _).mono ?_
    rintro e q_ ⟨rfl, rfl⟩
    go_upto_region 18 with fail
    refine zBegin (Z := [15]) (S := fun w' => Below wa.heap.size wa w') (by kernel_rfl) ?pz1 ((Below.refl wa.heap.size wa).drew) (fun hPQ wd hbd hHeld => ?sz1)
    case pz1 => (repeat (with_reducible first | refine PQ.then ?_ | refine PQ.block ?_)); exact fun _ _ d _ _ h => by cases d <;> exact h
    case sz1 =>
      clear hbd
      have hw1 : IntKind.i64.wrap (t + 1) = t + 1 := IntWalk.i64_in _ (by omega)
      refine zVal (i := 0) (d := (some 71)) (v := ?_) rfl rfl (by kernel_rfl) (by kernel_rfl) (by kernel_rfl) (by kernel_rfl) hPQ (by rfl) (fun wq hSw => ?_) hHeld ?_
      rotate_left 1
      · have cS0 := cell_stays (RX.out.trans (hSw.mono RX.out.size)) HC0.out; have cS1 := cell_stays (RX.out.trans (hSw.mono RX.out.size)) HC1.out; go_simp; try with_reducible rfl
      try simp only [Act.put, List.setIfInBounds_toArray, List.set_cons_zero, List.set_cons_succ]
      refine zVal (i := 1) (d := (some 72)) (v := ?_) rfl rfl (by kernel_rfl) (by kernel_rfl) (by kernel_rfl) (by kernel_rfl) hPQ (by rfl) (fun wq hSw => ?_) hHeld ?_
      rotate_left 1
      · have cS0 := cell_stays (RX.out.trans (hSw.mono RX.out.size)) HC0.out; have cS1 := cell_stays (RX.out.trans (hSw.mono RX.out.size)) HC1.out; go_simp; try with_reducible rfl
      try simp only [Act.put, List.setIfInBounds_toArray, List.set_cons_zero, List.set_cons_succ]
      refine zVal (i := 2) (d := (some 73)) (v := ?_) rfl rfl (by kernel_rfl) (by kernel_rfl) (by kernel_rfl) (by kernel_rfl) hPQ (by rfl) (fun wq hSw => ?_) hHeld ?_
      rotate_left 1
      · have cS0 := cell_stays (RX.out.trans (hSw.mono RX.out.size)) HC0.out; have cS1 := cell_stays (RX.out.trans (hSw.mono RX.out.size)) HC1.out; go_simp; try with_reducible rfl
      try simp only [Act.put, List.setIfInBounds_toArray, List.set_cons_zero, List.set_cons_succ]
      refine zVal (i := 3) (d := (some 74)) (v := ?_) rfl rfl (by kernel_rfl) (by kernel_rfl) (by kernel_rfl) (by kernel_rfl) hPQ (by rfl) (fun wq hSw => ?_) hHeld ?_
      rotate_left 1
      · have cS0 := cell_stays (RX.out.trans (hSw.mono RX.out.size)) HC0.out; have cS1 := cell_stays (RX.out.trans (hSw.mono RX.out.size)) HC1.out; go_simp; try with_reducible rfl
      try simp only [Act.put, List.setIfInBounds_toArray, List.set_cons_zero, List.set_cons_succ]
      refine zVal (i := 4) (d := (some 75)) (v := ?_) rfl rfl (by kernel_rfl) (by kernel_rfl) (by kernel_rfl) (by kernel_rfl) hPQ (by rfl) (fun wq hSw => ?_) hHeld ?_
      rotate_left 1
      · have cS0 := cell_stays (RX.out.trans (hSw.mono RX.out.size)) HC0.out; have cS1 := cell_stays (RX.out.trans (hSw.mono RX.out.size)) HC1.out; go_simp; try with_reducible rfl
      try simp only [Act.put, List.setIfInBounds_toArray, List.set_cons_zero, List.set_cons_succ]
      refine zVal (i := 5) (d := (some 76)) (v := ?_) rfl rfl (by kernel_rfl) (by kernel_rfl) (by kernel_rfl) (by kernel_rfl) hPQ (by rfl) (fun wq hSw => ?_) hHeld ?_
      rotate_left 1
      · have cS0 := cell_stays (RX.out.trans (hSw.mono RX.out.size)) HC0.out; have cS1 := cell_stays (RX.out.trans (hSw.mono RX.out.size)) HC1.out; go_simp; try with_reducible rfl
      try simp only [Act.put, List.setIfInBounds_toArray, List.set_cons_zero, List.set_cons_succ]
      refine zVal (i := 6) (d := (some 77)) (v := ?_) rfl rfl (by kernel_rfl) (by kernel_rfl) (by kernel_rfl) (by kernel_rfl) hPQ (by rfl) (fun wq hSw => ?_) hHeld ?_
      rotate_left 1
      · have cS0 := cell_stays (RX.out.trans (hSw.mono RX.out.size)) HC0.out; have cS1 := cell_stays (RX.out.trans (hSw.mono RX.out.size)) HC1.out; go_simp; try with_reducible rfl
      try simp only [Act.put, List.setIfInBounds_toArray, List.set_cons_zero, List.set_cons_succ]
      refine zVal (i := 7) (d := (some 78)) (v := ?_) rfl rfl (by kernel_rfl) (by kernel_rfl) (by kernel_rfl) (by kernel_rfl) hPQ (by rfl) (fun wq hSw => ?_) hHeld ?_
      rotate_left 1
      · have cS0 := cell_stays (RX.out.trans (hSw.mono RX.out.size)) HC0.out; have cS1 := cell_stays (RX.out.trans (hSw.mono RX.out.size)) HC1.out; go_simp; try with_reducible rfl
      try simp only [Act.put, List.setIfInBounds_toArray, List.set_cons_zero, List.set_cons_succ]
      refine zVal (i := 8) (d := (some 79)) (v := ?_) rfl rfl (by kernel_rfl) (by kernel_rfl) (by kernel_rfl) (by kernel_rfl) hPQ (by rfl) (fun wq hSw => ?_) hHeld ?_
      rotate_left 1
      · have cS0 := cell_stays (RX.out.trans (hSw.mono RX.out.size)) HC0.out; have cS1 := cell_stays (RX.out.trans (hSw.mono RX.out.size)) HC1.out; go_simp; try with_reducible rfl
      try simp only [Act.put, List.setIfInBounds_toArray, List.set_cons_zero, List.set_cons_succ]
      refine zVal (i := 9) (d := (some 80)) (v := ?_) rfl rfl (by kernel_rfl) (by kernel_rfl) (by kernel_rfl) (by kernel_rfl) hPQ (by rfl) (fun wq hSw => ?_) hHeld ?_
      rotate_left 1
      · have cS0 := cell_stays (RX.out.trans (hSw.mono RX.out.size)) HC0.out; have cS1 := cell_stays (RX.out.trans (hSw.mono RX.out.size)) HC1.out; go_simp; try with_reducible rfl
      try simp only [Act.put, List.setIfInBounds_toArray, List.set_cons_zero, List.set_cons_succ]
      refine zVal (i := 10) (d := (some 81)) (v := ?_) rfl rfl (by kernel_rfl) (by kernel_rfl) (by kernel_rfl) (by kernel_rfl) hPQ (by rfl) (fun wq hSw => ?_) hHeld ?_
      rotate_left 1
      · have cS0 := cell_stays (RX.out.trans (hSw.mono RX.out.size)) HC0.out; have cS1 := cell_stays (RX.out.trans (hSw.mono RX.out.size)) HC1.out; go_simp; try with_reducible rfl
      try simp only [Act.put, List.setIfInBounds_toArray, List.set_cons_zero, List.set_cons_succ]
      refine zVal (i := 11) (d := (some 82)) (v := ?_) rfl rfl (by kernel_rfl) (by kernel_rfl) (by kernel_rfl) (by kernel_rfl) hPQ (by rfl) (fun wq hSw => ?_) hHeld ?_
      rotate_left 1
      · have cS0 := cell_stays (RX.out.trans (hSw.mono RX.out.size)) HC0.out; have cS1 := cell_stays (RX.out.trans (hSw.mono RX.out.size)) HC1.out; go_simp; try with_reducible rfl
      try simp only [Act.put, List.setIfInBounds_toArray, List.set_cons_zero, List.set_cons_succ]
      refine zVal (i := 12) (d := (some 83)) (v := ?_) rfl rfl (by kernel_rfl) (by kernel_rfl) (by kernel_rfl) (by kernel_rfl) hPQ (by rfl) (fun wq hSw => ?_) hHeld ?_
      rotate_left 1
      · have cS0 := cell_stays (RX.out.trans (hSw.mono RX.out.size)) HC0.out; have cS1 := cell_stays (RX.out.trans (hSw.mono RX.out.size)) HC1.out; go_simp; try with_reducible rfl
      try simp only [Act.put, List.setIfInBounds_toArray, List.set_cons_zero, List.set_cons_succ]
      refine zVal (i := 13) (d := (some 84)) (v := ?_) rfl rfl (by kernel_rfl) (by kernel_rfl) (by kernel_rfl) (by kernel_rfl) hPQ (by rfl) (fun wq hSw => ?_) hHeld ?_
      rotate_left 1
      · have cS0 := cell_stays (RX.out.trans (hSw.mono RX.out.size)) HC0.out; have cS1 := cell_stays (RX.out.trans (hSw.mono RX.out.size)) HC1.out; go_simp; try with_reducible rfl
      try simp only [Act.put, List.setIfInBounds_toArray, List.set_cons_zero, List.set_cons_succ]
      refine zVal (i := 14) (d := (some 85)) (v := ?_) rfl rfl (by kernel_rfl) (by kernel_rfl) (by kernel_rfl) (by kernel_rfl) hPQ (by rfl) (fun wq hSw => ?_) hHeld ?_
      rotate_left 1
      · have cS0 := cell_stays (RX.out.trans (hSw.mono RX.out.size)) HC0.out; have cS1 := cell_stays (RX.out.trans (hSw.mono RX.out.size)) HC1.out; go_simp; try with_reducible rfl
      try simp only [Act.put, List.setIfInBounds_toArray, List.set_cons_zero, List.set_cons_succ]
      refine zAlone (j := 15) (by kernel_rfl) ?_
      have HG2 := HG.out.stays hHeld
      obtain ⟨⟨x0, kx0⟩, ⟨x1, kx1⟩, fx0, fx1⟩ := HG2.cells hj2
      refine zOpStore (j := 15) (w2 := (wd.setCell ⟨g_, j * 2, none⟩ (.int .i64 (t + 1))).setCell ⟨g_, j * 2 + 1, none⟩ (.slice A1 n1 c1)) rfl rfl (by rfl) ?rz2 ⟨.inl (by decide), ?tz2⟩
      case rz2 => go_simp; try with_reducible rfl
      case tz2 =>
        try simp only [Act.put, List.setIfInBounds_toArray, List.set_cons_zero, List.set_cons_succ]
        refine zDone (by kernel_rfl) ?_ _
        have D1 := Lib.hid (HG2.set (t := t + 1) hj2 (HY.out.stays (RX.out.trans (hHeld.mono RX.out.size))) (fun a ha hn e => by have h1 := HY.out.lt hn a ha; have h2 := xG; injection e with e; omega))
        have RD := Lib.hid (show Below w.heap.size w ((wd.setCell ⟨g_, j * 2, none⟩ (.int .i64 (t + 1))).setCell ⟨g_, j * 2 + 1, none⟩ (.slice A1 n1 c1)) from ((Ra.out.trans (hHeld.mono hz_wa)).setCell (p := ⟨g_, j * 2, none⟩) uG _).setCell (p := ⟨g_, j * 2 + 1, none⟩) uG _)
        have RX := Lib.hid (show Below wr.heap.size wr ((wd.setCell ⟨g_, j * 2, none⟩ (.int .i64 (t + 1))).setCell ⟨g_, j * 2 + 1, none⟩ (.slice A1 n1 c1)) from ((RX.out.trans (hHeld.mono RX.out.size)).setCell (p := ⟨g_, j * 2, none⟩) (Nat.le_trans xG vG) _).setCell (p := ⟨g_, j * 2 + 1, none⟩) (Nat.le_trans xG vG) _)
        clear kx0 kx1 fx0 fx1 HG2 HG hHeld
        clear Ra hz_wa
        generalize (wd.setCell ⟨g_, j * 2, none⟩ (.int .i64 (t + 1))).setCell ⟨g_, j * 2 + 1, none⟩ (.slice A1 n1 c1) = wv at *
        have HG := D1
        clear D1
        have hz_wv := RD.out.size
        have RV := Lib.hid (Below.refl wv.heap.size wv)
        clear xG
        have hq1 : Below wv.heap.size wv (wv.alloc (.cells #[] 38)) := below_alloc1 _ _
        have xG : wr.heap.size ≤ wv.heap.size := RX.out.size
        go_wp2_with (at_builtin; (refine wpList_append_g (vs := .slice (some ⟨wv.heap.size, 0, none⟩) 0 0) (vx := .slice (some ⟨bb, off, none⟩) k fc) rfl _ _ 32 rfl rfl rfl (R := fun v w' => ∃ A8 c8, v = .slice A8 k c8 ∧ FldsA w' wv.heap.size A8 k c8 F ∧ Below wv.heap.size _ w') (by obtain ⟨A8, c8, w8, h1, h2, h3, h4⟩ := run_append_flds VF.out (RX.out.trans (hq1.mono RX.out.size)) (fld_lit _ _ (Nat.le_refl _)) RX.out.size (by omega) (by simp) _; rw [Nat.zero_add] at h1 h2; rw [List.nil_append] at h2; exact ⟨_, w8, h1, A8, c8, rfl, h2, h4⟩) ?_; rintro v wb ⟨Ab, cb, rfl, hO, hb8⟩; have HQb := Lib.hid (hq1.trans hb8); have HOb := Lib.hid hO; clear hO hb8))
        clear hq1
        obtain ⟨h_, eAb, hH⟩ := HOb.out.row (by omega)
        subst eAb
        have HH := Lib.hid hH
        have vH := hH.ge
        have RX := Lib.hid (RX.out.trans (HQb.out.mono RX.out.size))
        have RV := Lib.hid (RV.out.trans (HQb.out.mono RV.out.size))
        have Rb := Lib.hid (RD.out.trans (HQb.out.mono hz_wv))
        have hz_wb := Rb.out.size
        have uH : w.heap.size ≤ h_ := Nat.le_trans hz_wv vH
        clear HQb HOb hH RD hz_wv
        go_upto_region 20 with fail
        refine zBegin (Z := [18]) (S := fun w' => Below wb.heap.size wb w') (by kernel_rfl) ?pz3 ((Below.refl wb.heap.size wb).drew) (fun hPQ wd hbd hHeld => ?sz3)
        case pz3 => (repeat (with_reducible first | refine PQ.then ?_ | refine PQ.block ?_)); exact fun _ _ d _ _ h => by cases d <;> exact h
        case sz3 =>
          clear hbd
          refine zVal (i := 0) (d := (some 89)) (v := ?_) rfl rfl (by kernel_rfl) (by kernel_rfl) (by kernel_rfl) (by kernel_rfl) hPQ (by rfl) (fun wq hSw => ?_) hHeld ?_
          rotate_left 1
          · have cS0 := cell_stays (RX.out.trans (hSw.mono RX.out.size)) HC0.out; have cS1 := cell_stays (RX.out.trans (hSw.mono RX.out.size)) HC1.out; go_simp; try with_reducible rfl
          try simp only [Act.put, List.setIfInBounds_toArray, List.set_cons_zero, List.set_cons_succ]
          refine zVal (i := 1) (d := (some 90)) (v := ?_) rfl rfl (by kernel_rfl) (by kernel_rfl) (by kernel_rfl) (by kernel_rfl) hPQ (by rfl) (fun wq hSw => ?_) hHeld ?_
          rotate_left 1
          · have cS0 := cell_stays (RX.out.trans (hSw.mono RX.out.size)) HC0.out; have cS1 := cell_stays (RX.out.trans (hSw.mono RX.out.size)) HC1.out; go_simp; try with_reducible rfl
          try simp only [Act.put, List.setIfInBounds_toArray, List.set_cons_zero, List.set_cons_succ]
          refine zVal (i := 2) (d := (some 91)) (v := ?_) rfl rfl (by kernel_rfl) (by kernel_rfl) (by kernel_rfl) (by kernel_rfl) hPQ (by rfl) (fun wq hSw => ?_) hHeld ?_
          rotate_left 1
          · have cS0 := cell_stays (RX.out.trans (hSw.mono RX.out.size)) HC0.out; have cS1 := cell_stays (RX.out.trans (hSw.mono RX.out.size)) HC1.out; go_simp; try with_reducible rfl
          try simp only [Act.put, List.setIfInBounds_toArray, List.set_cons_zero, List.set_cons_succ]
          refine zVal (i := 3) (d := (some 92)) (v := ?_) rfl rfl (by kernel_rfl) (by kernel_rfl) (by kernel_rfl) (by kernel_rfl) hPQ (by rfl) (fun wq hSw => ?_) hHeld ?_
          rotate_left 1
          · have cS0 := cell_stays (RX.out.trans (hSw.mono RX.out.size)) HC0.out; have cS1 := cell_stays (RX.out.trans (hSw.mono RX.out.size)) HC1.out; go_simp; try with_reducible rfl
          try simp only [Act.put, List.setIfInBounds_toArray, List.set_cons_zero, List.set_cons_succ]
          refine zVal (i := 4) (d := (some 93)) (v := ?_) rfl rfl (by kernel_rfl) (by kernel_rfl) (by kernel_rfl) (by kernel_rfl) hPQ (by rfl) (fun wq hSw => ?_) hHeld ?_
          rotate_left 1
          · have cS0 := cell_stays (RX.out.trans (hSw.mono RX.out.size)) HC0.out; have cS1 := cell_stays (RX.out.trans (hSw.mono RX.out.size)) HC1.out; go_simp; try with_reducible rfl
          try simp only [Act.put, List.setIfInBounds_toArray, List.set_cons_zero, List.set_cons_succ]
          refine zVal (i := 5) (d := (some 94)) (v := ?_) rfl rfl (by kernel_rfl) (by kernel_rfl) (by kernel_rfl) (by kernel_rfl) hPQ (by rfl) (fun wq hSw => ?_) hHeld ?_
          rotate_left 1
          · have cS0 := cell_stays (RX.out.trans (hSw.mono RX.out.size)) HC0.out; have cS1 := cell_stays (RX.out.trans (hSw.mono RX.out.size)) HC1.out; go_simp; try with_reducible rfl
          try simp only [Act.put, List.setIfInBounds_toArray, List.set_cons_zero, List.set_cons_succ]
          refine zVal (i := 6) (d := (some 95)) (v := ?_) rfl rfl (by kernel_rfl) (by kernel_rfl) (by kernel_rfl) (by kernel_rfl) hPQ (by rfl) (fun wq hSw => ?_) hHeld ?_
          rotate_left 1
          · have cS0 := cell_stays (RX.out.trans (hSw.mono RX.out.size)) HC0.out; have cS1 := cell_stays (RX.out.trans (hSw.mono RX.out.size)) HC1.out; go_simp; try with_reducible rfl
          try simp only [Act.put, List.setIfInBounds_toArray, List.set_cons_zero, List.set_cons_succ]
          refine zVal (i := 8) (d := (some 97)) (v := ?_) rfl rfl (by kernel_rfl) (by kernel_rfl) (by kernel_rfl) (by kernel_rfl) hPQ (by rfl) (fun wq hSw => ?_) hHeld ?_
          rotate_left 1
          · have cS0 := cell_stays (RX.out.trans (hSw.mono RX.out.size)) HC0.out; have cS1 := cell_stays (RX.out.trans (hSw.mono RX.out.size)) HC1.out; go_simp; try with_reducible rfl
          try simp only [Act.put, List.setIfInBounds_toArray, List.set_cons_zero, List.set_cons_succ]
          refine zVal (i := 9) (d := (some 98)) (v := ?_) rfl rfl (by kernel_rfl) (by kernel_rfl) (by kernel_rfl) (by kernel_rfl) hPQ (by rfl) (fun wq hSw => ?_) hHeld ?_
          rotate_left 1
          · have cS0 := cell_stays (RX.out.trans (hSw.mono RX.out.size)) HC0.out; have cS1 := cell_stays (RX.out.trans (hSw.mono RX.out.size)) HC1.out; go_simp; try with_reducible rfl
          try simp only [Act.put, List.setIfInBounds_toArray, List.set_cons_zero, List.set_cons_succ]
          refine zVal (i := 10) (d := (some 99)) (v := ?_) rfl rfl (by kernel_rfl) (by kernel_rfl) (by kernel_rfl) (by kernel_rfl) hPQ (by rfl) (fun wq hSw => ?_) hHeld ?_
          rotate_left 1
          · have cS0 := cell_stays (RX.out.trans (hSw.mono RX.out.size)) HC0.out; have cS1 := cell_stays (RX.out.trans (hSw.mono RX.out.size)) HC1.out; go_simp; try with_reducible rfl
          try simp only [Act.put, List.setIfInBounds_toArray, List.set_cons_zero, List.set_cons_succ]
          refine zVal (i := 11) (d := (some 100)) (v := ?_) rfl rfl (by kernel_rfl) (by kernel_rfl) (by kernel_rfl) (by kernel_rfl) hPQ (by rfl) (fun wq hSw => ?_) hHeld ?_
          rotate_left 1
          · have cS0 := cell_stays (RX.out.trans (hSw.mono RX.out.size)) HC0.out; have cS1 := cell_stays (RX.out.trans (hSw.mono RX.out.size)) HC1.out; go_simp; try with_reducible rfl
          try simp only [Act.put, List.setIfInBounds_toArray, List.set_cons_zero, List.set_cons_succ]
          refine zVal (i := 12) (d := (some 101)) (v := ?_) rfl rfl (by kernel_rfl) (by kernel_rfl) (by kernel_rfl) (by kernel_rfl) hPQ (by rfl) (fun wq hSw => ?_) hHeld ?_
          rotate_left 1
          · have cS0 := cell_stays (RX.out.trans (hSw.mono RX.out.size)) HC0.out; have cS1 := cell_stays (RX.out.trans (hSw.mono RX.out.size)) HC1.out; go_simp; try with_reducible rfl
          try simp only [Act.put, List.setIfInBounds_toArray, List.set_cons_zero, List.set_cons_succ]
          refine zAll (rs := [7, 14]) (by kernel_rfl) (by decide) (fun k hk => ?_)
          rcases zTwo hk with rfl | rfl
          ·
            refine zOpNew (j := 7) (d := (some 96)) (T := 5) (z := #[]) (val := fun g => .slice (some ⟨g, 0, none⟩) 0 0) rfl rfl (by rfl) ?rz4 (fun gl v1 gl_ge gl_lt BL hb1 => ⟨.inr (hHeld.trans (hb1.mono hHeld.size)), ?tz4⟩)
            case rz4 => go_simp; try with_reducible rfl
            case tz4 =>
              try simp only [Act.put, List.setIfInBounds_toArray, List.set_cons_zero, List.set_cons_succ]
              have hL : World.ownsRow v1 wb.heap.size 5 1 (.slice (some ⟨gl, 0, none⟩) 0 0) 0 [] := ownE BL (Nat.le_trans hHeld.size gl_ge)
              have hHeld := hHeld.trans (hb1.mono hHeld.size)
              refine zAll (rs := [13, 14]) (by kernel_rfl) (by decide) (fun k hk => ?_)
              rcases zTwo hk with rfl | rfl
              ·
                refine zOpApp (j := 13) (d := (some 102)) (R := fun v w' => ∃ A8 c8, v = .slice A8 n1 c8 ∧ w'.ownsRow wb.heap.size 5 1 (.slice A8 n1 c8) n1 (d.map byteV) ∧ Below wb.heap.size v1 w' ∧ World.grownBy v1 w' (Value.slice (some ⟨gl, 0, none⟩) 0 0).ownBlock) rfl rfl (by rfl) rfl (by rfl) (by rfl) (by obtain ⟨A8, c8, w8, h1, h2, h3, h4⟩ := run_append_bytes hL (HY.out.stays (RX.out.trans (hHeld.mono RX.out.size))) (by omega) hHeld.size _; rw [Nat.zero_add] at h1 h2; rw [List.nil_append] at h2; exact ⟨_, w8, h1, A8, c8, rfl, h2, h3, h4⟩) (fun v v2 hRv => ?tz5)
                case tz5 =>
                  obtain ⟨A8, c8, rfl, hD, hb8, hg8⟩ := hRv
                  refine ⟨.inr (hHeld.trans hb8), ?_⟩
                  try simp only [Act.put, List.setIfInBounds_toArray, List.set_cons_zero, List.set_cons_succ]
                  have hHeld := hHeld.trans hb8
                  refine zAlone (j := 14) (by kernel_rfl) ?_
                  refine zOpNew (j := 14) (d := (some 103)) (T := 5) (z := #[.int .u8 0]) (val := fun g => .slice (some ⟨g, 0, none⟩) 1 1) rfl rfl (by rfl) ?rz6 (fun gz v3 gz_ge gz_lt BZ hb3 => ⟨.inr (hHeld.trans (hb3.mono hHeld.size)), ?tz6⟩)
                  case rz6 => go_simp; try with_reducible rfl
                  case tz6 =>
                    try simp only [Act.put, List.setIfInBounds_toArray, List.set_cons_zero, List.set_cons_succ]
                    have hHeld := hHeld.trans (hb3.mono hHeld.size)
                    have hD := own_below hD hb3
                    refine zAlone (j := 15) (by kernel_rfl) ?_
                    refine zOpApp (j := 15) (d := (some 104)) (R := fun v w' => ∃ A9 c9, v = .slice A9 (n1 + 1) c9 ∧ w'.ownsRow wb.heap.size 5 1 (.slice A9 (n1 + 1) c9) (n1 + 1) (d.map byteV ++ ([0] : List UInt8).map byteV) ∧ Below wb.heap.size v3 w') rfl rfl (by rfl) rfl (by rfl) (by rfl) (by obtain ⟨A9, c9, w9, h1, h2, h3, h4⟩ := run_append_bytes hD (bytes_blk1 BZ) (by omega) hHeld.size _; exact ⟨_, w9, h1, A9, c9, rfl, h2, h3⟩) (fun v v4 hRv => ?tz7)
                    case tz7 =>
                      obtain ⟨A9, c9, rfl, hE, hb9⟩ := hRv
                      refine ⟨.inr (hHeld.trans hb9), ?_⟩
                      try simp only [Act.put, List.setIfInBounds_toArray, List.set_cons_zero, List.set_cons_succ]
                      have hHeld := hHeld.trans hb9
                      refine zVal (i := 16) (d := (some 105)) (v := ?_) rfl rfl (by kernel_rfl) (by kernel_rfl) (by kernel_rfl) (by kernel_rfl) hPQ (by rfl) (fun wq hSw => ?_) hHeld ?_
                      rotate_left 1
                      · have cS0 := cell_stays (RX.out.trans (hSw.mono RX.out.size)) HC0.out; have cS1 := cell_stays (RX.out.trans (hSw.mono RX.out.size)) HC1.out; go_simp; try with_reducible rfl
                      try simp only [Act.put, List.setIfInBounds_toArray, List.set_cons_zero, List.set_cons_succ]
                      refine zVal (i := 17) (d := (some 106)) (v := ?_) rfl rfl (by kernel_rfl) (by kernel_rfl) (by kernel_rfl) (by kernel_rfl) hPQ (by rfl) (fun wq hSw => ?_) hHeld ?_
                      rotate_left 1
                      · have cS0 := cell_stays (RX.out.trans (hSw.mono RX.out.size)) HC0.out; have cS1 := cell_stays (RX.out.trans (hSw.mono RX.out.size)) HC1.out; go_simp; try with_reducible rfl
                      try simp only [Act.put, List.setIfInBounds_toArray, List.set_cons_zero, List.set_cons_succ]
                      refine zAlone (j := 18) (by kernel_rfl) ?_
                      have HG2 := HH.out.stays hHeld
                      obtain ⟨⟨x0, kx0⟩, ⟨x1, kx1⟩, fx0, fx1⟩ := HG2.cells hj2
                      refine zOpStore (j := 18) (w2 := (v4.setCell ⟨h_, j * 2, none⟩ (.int .i64 t)).setCell ⟨h_, j * 2 + 1, none⟩ (.slice A9 (n1 + 1) c9)) rfl rfl (by rfl) ?rz8 ⟨.inl (by decide), ?tz8⟩
                      case rz8 => go_simp; try with_reducible rfl
                      case tz8 =>
                        try simp only [Act.put, List.setIfInBounds_toArray, List.set_cons_zero, List.set_cons_succ]
                        refine zDone (by kernel_rfl) ?_ _
                        have hEB : Bytes v4 A9 (n1 + 1) c9 (d ++ [0]) := by have := own_rd hE; unfold Bytes; rw [List.map_append]; exact this
                        have D1 := Lib.hid (HG2.set (t := t) hj2 hEB (by obtain ⟨cur, hblk, _⟩ := HG2; exact off_own hE hblk (by decide)))
                        have RD := Lib.hid (show Below w.heap.size w ((v4.setCell ⟨h_, j * 2, none⟩ (.int .i64 t)).setCell ⟨h_, j * 2 + 1, none⟩ (.slice A9 (n1 + 1) c9)) from ((Rb.out.trans (hHeld.mono hz_wb)).setCell (p := ⟨h_, j * 2, none⟩) uH _).setCell (p := ⟨h_, j * 2 + 1, none⟩) uH _)
                        have RX := Lib.hid (show Below wr.heap.size wr ((v4.setCell ⟨h_, j * 2, none⟩ (.int .i64 t)).setCell ⟨h_, j * 2 + 1, none⟩ (.slice A9 (n1 + 1) c9)) from ((RX.out.trans (hHeld.mono RX.out.size)).setCell (p := ⟨h_, j * 2, none⟩) (Nat.le_trans xG vH) _).setCell (p := ⟨h_, j * 2 + 1, none⟩) (Nat.le_trans xG vH) _)
                        have RV := Lib.hid (show Below wv.heap.size wv ((v4.setCell ⟨h_, j * 2, none⟩ (.int .i64 t)).setCell ⟨h_, j * 2 + 1, none⟩ (.slice A9 (n1 + 1) c9)) from ((RV.out.trans (hHeld.mono RV.out.size)).setCell (p := ⟨h_, j * 2, none⟩) vH _).setCell (p := ⟨h_, j * 2 + 1, none⟩) vH _)
                        clear kx0 kx1 fx0 fx1 HG2 HH hHeld hE hEB
                        generalize (v4.setCell ⟨h_, j * 2, none⟩ (.int .i64 t)).setCell ⟨h_, j * 2 + 1, none⟩ (.slice A9 (n1 + 1) c9) = wz at *
                        have HH := D1
                        clear D1
                        have RD2 := RD
                        have hz_wz := RD2.out.size
                        go_wp2_with fail
                        refine (extKnown _).mono ?_
                        rintro e y1 ⟨rfl, hb⟩
                        have hbx : Below wz.heap.size wz y1 := below_via (by go_grown) hb (by first | (simp; done) | (simp; omega))
                        have RX := Lib.hid (RX.out.trans (hbx.mono RX.out.size))
                        have RV := Lib.hid (RV.out.trans (hbx.mono RV.out.size))
                        have HH := Lib.hid (HH.out.stays hbx)
                        have R2 := Lib.hid (RD2.out.trans (hbx.mono hz_wz))
                        have hz_y1 := R2.out.size
                        clear hb hbx  RD2 hz_wz
                        clear xG
                        have hq1 : Below y1.heap.size y1 (y1.alloc (.cells #[] 38)) := below_alloc1 _ _
                        have xG : wr.heap.size ≤ y1.heap.size := RX.out.size
                        go_wp2_with (at_builtin; (refine wpList_append_g (vs := .slice (some ⟨y1.heap.size, 0, none⟩) 0 0) (vx := .slice (some ⟨bb, off, none⟩) k fc) rfl _ _ 32 rfl rfl rfl (R := fun v w' => ∃ A8 c8, v = .slice A8 k c8 ∧ FldsA w' y1.heap.size A8 k c8 F ∧ Below y1.heap.size _ w') (by obtain ⟨A8, c8, w8, h1, h2, h3, h4⟩ := run_append_flds VF.out (RX.out.trans (hq1.mono RX.out.size)) (fld_lit _ _ (Nat.le_refl _)) RX.out.size (by omega) (by simp) _; rw [Nat.zero_add] at h1 h2; rw [List.nil_append] at h2; exact ⟨_, w8, h1, A8, c8, rfl, h2, h4⟩) ?_; rintro v wc ⟨Ac, cc, rfl, hO, hb8⟩; have HQc := Lib.hid (hq1.trans hb8); have HOc := Lib.hid hO; clear hO hb8))
                        clear hq1
                        have RX := Lib.hid (RX.out.trans (HQc.out.mono RX.out.size))
                        have RV := Lib.hid (RV.out.trans (HQc.out.mono RV.out.size))
                        have HH := Lib.hid (HH.out.stays HQc.out)
                        have Rc := Lib.hid (R2.out.trans (HQc.out.mono hz_y1))
                        have hz_wc := Rc.out.size
                        have VC := Lib.hid HOc.out.flds
                        clear HQc HOc
                        have VG := Lib.hid (HG.out.flds.stays RV.out)
                        have VF := Lib.hid (VF.out.stays RX.out)
                        have VH := Lib.hid HH.out.flds
                        clear RX RV HG HH HC0 HC1 HY
                        have hc1F := run_cut1F (A := some ⟨bb, off, none⟩) (n := k) (c := fc) hk1 rfl rfl
                        go_wp2_with fail
                        refine (sameE_any _ _ _ _ _ _ _ _ _ VF.out VC.out).mono ?_
                        rintro e y3 ⟨rfl, hb⟩
                        have hbx : Below wc.heap.size wc y3 := below_via (by go_grown) hb (by first | (simp; done) | (simp; omega))
                        have VC := Lib.hid (VC.out.stays hbx)
                        have VG := Lib.hid (VG.out.stays hbx)
                        have VF := Lib.hid (VF.out.stays hbx)
                        have VH := Lib.hid (VH.out.stays hbx)
                        have R4 := Lib.hid (Rc.out.trans (hbx.mono hz_wc))
                        have hz_y3 := R4.out.size
                        clear hb hbx  Rc hz_wc
                        rw [decide_eq_true (rfl : F = F)]
                        go_wp2_with fail
                        refine (sameE_any _ _ _ _ _ _ _ _ _ VF.out VG.out).mono ?_
                        rintro e y5 ⟨rfl, hb⟩
                        have hbx : Below y3.heap.size y3 y5 := below_via (by go_grown) hb (by first | (simp; done) | (simp; omega))
                        have VC := Lib.hid (VC.out.stays hbx)
                        have VG := Lib.hid (VG.out.stays hbx)
                        have VF := Lib.hid (VF.out.stays hbx)
                        have VH := Lib.hid (VH.out.stays hbx)
                        have R6 := Lib.hid (R4.out.trans (hbx.mono hz_y3))
                        have hz_y5 := R6.out.size
                        clear hb hbx  R4 hz_y3
                        rw [HT2.out]
                        go_wp2_with fail
                        refine (sameE_any _ _ _ _ _ _ _ _ _ VF.out VH.out).mono ?_
                        rintro e y7 ⟨rfl, hb⟩
                        have hbx : Below y5.heap.size y5 y7 := below_via (by go_grown) hb (by first | (simp; done) | (simp; omega))
                        have VC := Lib.hid (VC.out.stays hbx)
                        have VG := Lib.hid (VG.out.stays hbx)
                        have VF := Lib.hid (VF.out.stays hbx)
                        have VH := Lib.hid (VH.out.stays hbx)
                        have R8 := Lib.hid (R6.out.trans (hbx.mono hz_y5))
                        have hz_y7 := R8.out.size
                        clear hb hbx  R6 hz_y5
                        rw [HD2.out]
                        go_wp2_with fail
                        refine (sameE_any _ _ _ _ _ _ _ _ _ VF.out (VF.out.cut1 hk1 rfl rfl)).mono ?_
                        rintro e y9 ⟨rfl, hb⟩
                        have hbx : Below y7.heap.size y7 y9 := below_via (by go_grown) hb (by first | (simp; done) | (simp; omega))
                        have VC := Lib.hid (VC.out.stays hbx)
                        have VG := Lib.hid (VG.out.stays hbx)
                        have VF := Lib.hid (VF.out.stays hbx)
                        have VH := Lib.hid (VH.out.stays hbx)
                        have R10 := Lib.hid (R8.out.trans (hbx.mono hz_y7))
                        have hz_y9 := R10.out.size
                        clear hb hbx  R8 hz_y7
                        rw [HDR.out]
                        go_wp2
                        go_ret
                        exact ⟨rfl, R10.out⟩
              ·
                refine zOpNew (j := 14) (d := (some 103)) (T := 5) (z := #[.int .u8 0]) (val := fun g => .slice (some ⟨g, 0, none⟩) 1 1) rfl rfl (by rfl) ?rz9 (fun gz v5 gz_ge gz_lt BZ hb5 => ⟨.inr (hHeld.trans (hb5.mono hHeld.size)), ?tz9⟩)
                case rz9 => go_simp; try with_reducible rfl
                case tz9 =>
                  try simp only [Act.put, List.setIfInBounds_toArray, List.set_cons_zero, List.set_cons_succ]
                  have hHeld := hHeld.trans (hb5.mono hHeld.size)
                  have hL := own_below hL hb5
                  refine zAlone (j := 13) (by kernel_rfl) ?_
                  refine zOpApp (j := 13) (d := (some 102)) (R := fun v w' => ∃ A8 c8, v = .slice A8 n1 c8 ∧ w'.ownsRow wb.heap.size 5 1 (.slice A8 n1 c8) n1 (d.map byteV) ∧ Below wb.heap.size v5 w' ∧ World.grownBy v5 w' (Value.slice (some ⟨gl, 0, none⟩) 0 0).ownBlock) rfl rfl (by rfl) rfl (by rfl) (by rfl) (by obtain ⟨A8, c8, w8, h1, h2, h3, h4⟩ := run_append_bytes hL (HY.out.stays (RX.out.trans (hHeld.mono RX.out.size))) (by omega) hHeld.size _; rw [Nat.zero_add] at h1 h2; rw [List.nil_append] at h2; exact ⟨_, w8, h1, A8, c8, rfl, h2, h3, h4⟩) (fun v v6 hRv => ?tz10)
                  case tz10 =>
                    obtain ⟨A8, c8, rfl, hD, hb8, hg8⟩ := hRv
                    refine ⟨.inr (hHeld.trans hb8), ?_⟩
                    try simp only [Act.put, List.setIfInBounds_toArray, List.set_cons_zero, List.set_cons_succ]
                    have hHeld := hHeld.trans hb8
                    have BZ := BZ.grown hg8 (by simp [Value.ownBlock]; omega)
                    refine zAlone (j := 15) (by kernel_rfl) ?_
                    refine zOpApp (j := 15) (d := (some 104)) (R := fun v w' => ∃ A9 c9, v = .slice A9 (n1 + 1) c9 ∧ w'.ownsRow wb.heap.size 5 1 (.slice A9 (n1 + 1) c9) (n1 + 1) (d.map byteV ++ ([0] : List UInt8).map byteV) ∧ Below wb.heap.size v6 w') rfl rfl (by rfl) rfl (by rfl) (by rfl) (by obtain ⟨A9, c9, w9, h1, h2, h3, h4⟩ := run_append_bytes hD (bytes_blk1 BZ) (by omega) hHeld.size _; exact ⟨_, w9, h1, A9, c9, rfl, h2, h3⟩) (fun v v7 hRv => ?tz11)
                    case tz11 =>
                      obtain ⟨A9, c9, rfl, hE, hb9⟩ := hRv
                      refine ⟨.inr (hHeld.trans hb9), ?_⟩
                      try simp only [Act.put, List.setIfInBounds_toArray, List.set_cons_zero, List.set_cons_succ]
                      have hHeld := hHeld.trans hb9
                      refine zVal (i := 16) (d := (some 105)) (v := ?_) rfl rfl (by kernel_rfl) (by kernel_rfl) (by kernel_rfl) (by kernel_rfl) hPQ (by rfl) (fun wq hSw => ?_) hHeld ?_
                      rotate_left 1
                      · have cS0 := cell_stays (RX.out.trans (hSw.mono RX.out.size)) HC0.out; have cS1 := cell_stays (RX.out.trans (hSw.mono RX.out.size)) HC1.out; go_simp; try with_reducible rfl
                      try simp only [Act.put, List.setIfInBounds_toArray, List.set_cons_zero, List.set_cons_succ]
                      refine zVal (i := 17) (d := (some 106)) (v := ?_) rfl rfl (by kernel_rfl) (by kernel_rfl) (by kernel_rfl) (by kernel_rfl) hPQ (by rfl) (fun wq hSw => ?_) hHeld ?_
                      rotate_left 1
                      · have cS0 := cell_stays (RX.out.trans (hSw.mono RX.out.size)) HC0.out; have cS1 := cell_stays (RX.out.trans (hSw.mono RX.out.size)) HC1.out; go_simp; try with_reducible rfl
                      try simp only [Act.put, List.setIfInBounds_toArray, List.set_cons_zero, List.set_cons_succ]
                      refine zAlone (j := 18) (by kernel_rfl) ?_
                      have HG2 := HH.out.stays hHeld
                      obtain ⟨⟨x0, kx0⟩, ⟨x1, kx1⟩, fx0, fx1⟩ := HG2.cells hj2
                      refine zOpStore (j := 18) (w2 := (v7.setCell ⟨h_, j * 2, none⟩ (.int .i64 t)).setCell ⟨h_, j * 2 + 1, none⟩ (.slice A9 (n1 + 1) c9)) rfl rfl (by rfl) ?rz12 ⟨.inl (by decide), ?tz12⟩
                      case rz12 => go_simp; try with_reducible rfl
                      case tz12 =>
                        try simp only [Act.put, List.setIfInBounds_toArray, List.set_cons_zero, List.set_cons_succ]
                        refine zDone (by kernel_rfl) ?_ _
                        have hEB : Bytes v7 A9 (n1 + 1) c9 (d ++ [0]) := by have := own_rd hE; unfold Bytes; rw [List.map_append]; exact this
                        have D1 := Lib.hid (HG2.set (t := t) hj2 hEB (by obtain ⟨cur, hblk, _⟩ := HG2; exact off_own hE hblk (by decide)))
                        have RD := Lib.hid (show Below w.heap.size w ((v7.setCell ⟨h_, j * 2, none⟩ (.int .i64 t)).setCell ⟨h_, j * 2 + 1, none⟩ (.slice A9 (n1 + 1) c9)) from ((Rb.out.trans (hHeld.mono hz_wb)).setCell (p := ⟨h_, j * 2, none⟩) uH _).setCell (p := ⟨h_, j * 2 + 1, none⟩) uH _)
                        have RX := Lib.hid (show Below wr.heap.size wr ((v7.setCell ⟨h_, j * 2, none⟩ (.int .i64 t)).setCell ⟨h_, j * 2 + 1, none⟩ (.slice A9 (n1 + 1) c9)) from ((RX.out.trans (hHeld.mono RX.out.size)).setCell (p := ⟨h_, j * 2, none⟩) (Nat.le_trans xG vH) _).setCell (p := ⟨h_, j * 2 + 1, none⟩) (Nat.le_trans xG vH) _)
                        have RV := Lib.hid (show Below wv.heap.size wv ((v7.setCell ⟨h_, j * 2, none⟩ (.int .i64 t)).setCell ⟨h_, j * 2 + 1, none⟩ (.slice A9 (n1 + 1) c9)) from ((RV.out.trans (hHeld.mono RV.out.size)).setCell (p := ⟨h_, j * 2, none⟩) vH _).setCell (p := ⟨h_, j * 2 + 1, none⟩) vH _)
                        clear kx0 kx1 fx0 fx1 HG2 HH hHeld hE hEB
                        generalize (v7.setCell ⟨h_, j * 2, none⟩ (.int .i64 t)).setCell ⟨h_, j * 2 + 1, none⟩ (.slice A9 (n1 + 1) c9) = wz at *
                        have HH := D1
                        clear D1
                        have RD2 := RD
                        have hz_wz := RD2.out.size
                        go_wp2_with fail
                        refine (extKnown _).mono ?_
                        rintro e y1 ⟨rfl, hb⟩
                        have hbx : Below wz.heap.size wz y1 := below_via (by go_grown) hb (by first | (simp; done) | (simp; omega))
                        have RX := Lib.hid (RX.out.trans (hbx.mono RX.out.size))
                        have RV := Lib.hid (RV.out.trans (hbx.mono RV.out.size))
                        have HH := Lib.hid (HH.out.stays hbx)
                        have R2 := Lib.hid (RD2.out.trans (hbx.mono hz_wz))
                        have hz_y1 := R2.out.size
                        clear hb hbx  RD2 hz_wz
                        clear xG
                        have hq1 : Below y1.heap.size y1 (y1.alloc (.cells #[] 38)) := below_alloc1 _ _
                        have xG : wr.heap.size ≤ y1.heap.size := RX.out.size
                        go_wp2_with (at_builtin; (refine wpList_append_g (vs := .slice (some ⟨y1.heap.size, 0, none⟩) 0 0) (vx := .slice (some ⟨bb, off, none⟩) k fc) rfl _ _ 32 rfl rfl rfl (R := fun v w' => ∃ A8 c8, v = .slice A8 k c8 ∧ FldsA w' y1.heap.size A8 k c8 F ∧ Below y1.heap.size _ w') (by obtain ⟨A8, c8, w8, h1, h2, h3, h4⟩ := run_append_flds VF.out (RX.out.trans (hq1.mono RX.out.size)) (fld_lit _ _ (Nat.le_refl _)) RX.out.size (by omega) (by simp) _; rw [Nat.zero_add] at h1 h2; rw [List.nil_append] at h2; exact ⟨_, w8, h1, A8, c8, rfl, h2, h4⟩) ?_; rintro v wc ⟨Ac, cc, rfl, hO, hb8⟩; have HQc := Lib.hid (hq1.trans hb8); have HOc := Lib.hid hO; clear hO hb8))
                        clear hq1
                        have RX := Lib.hid (RX.out.trans (HQc.out.mono RX.out.size))
                        have RV := Lib.hid (RV.out.trans (HQc.out.mono RV.out.size))
                        have HH := Lib.hid (HH.out.stays HQc.out)
                        have Rc := Lib.hid (R2.out.trans (HQc.out.mono hz_y1))
                        have hz_wc := Rc.out.size
                        have VC := Lib.hid HOc.out.flds
                        clear HQc HOc
                        have VG := Lib.hid (HG.out.flds.stays RV.out)
                        have VF := Lib.hid (VF.out.stays RX.out)
                        have VH := Lib.hid HH.out.flds
                        clear RX RV HG HH HC0 HC1 HY
                        have hc1F := run_cut1F (A := some ⟨bb, off, none⟩) (n := k) (c := fc) hk1 rfl rfl
                        go_wp2_with fail
                        refine (sameE_any _ _ _ _ _ _ _ _ _ VF.out VC.out).mono ?_
                        rintro e y3 ⟨rfl, hb⟩
                        have hbx : Below wc.heap.size wc y3 := below_via (by go_grown) hb (by first | (simp; done) | (simp; omega))
                        have VC := Lib.hid (VC.out.stays hbx)
                        have VG := Lib.hid (VG.out.stays hbx)
                        have VF := Lib.hid (VF.out.stays hbx)
                        have VH := Lib.hid (VH.out.stays hbx)
                        have R4 := Lib.hid (Rc.out.trans (hbx.mono hz_wc))
                        have hz_y3 := R4.out.size
                        clear hb hbx  Rc hz_wc
                        rw [decide_eq_true (rfl : F = F)]
                        go_wp2_with fail
                        refine (sameE_any _ _ _ _ _ _ _ _ _ VF.out VG.out).mono ?_
                        rintro e y5 ⟨rfl, hb⟩
                        have hbx : Below y3.heap.size y3 y5 := below_via (by go_grown) hb (by first | (simp; done) | (simp; omega))
                        have VC := Lib.hid (VC.out.stays hbx)
                        have VG := Lib.hid (VG.out.stays hbx)
                        have VF := Lib.hid (VF.out.stays hbx)
                        have VH := Lib.hid (VH.out.stays hbx)
                        have R6 := Lib.hid (R4.out.trans (hbx.mono hz_y3))
                        have hz_y5 := R6.out.size
                        clear hb hbx  R4 hz_y3
                        rw [HT2.out]
                        go_wp2_with fail
                        refine (sameE_any _ _ _ _ _ _ _ _ _ VF.out VH.out).mono ?_
                        rintro e y7 ⟨rfl, hb⟩
                        have hbx : Below y5.heap.size y5 y7 := below_via (by go_grown) hb (by first | (simp; done) | (simp; omega))
                        have VC := Lib.hid (VC.out.stays hbx)
                        have VG := Lib.hid (VG.out.stays hbx)
                        have VF := Lib.hid (VF.out.stays hbx)
                        have VH := Lib.hid (VH.out.stays hbx)
                        have R8 := Lib.hid (R6.out.trans (hbx.mono hz_y5))
                        have hz_y7 := R8.out.size
                        clear hb hbx  R6 hz_y5
                        rw [HD2.out]
                        go_wp2_with fail
                        refine (sameE_any _ _ _ _ _ _ _ _ _ VF.out (VF.out.cut1 hk1 rfl rfl)).mono ?_
                        rintro e y9 ⟨rfl, hb⟩
                        have hbx : Below y7.heap.size y7 y9 := below_via (by go_grown) hb (by first | (simp; done) | (simp; omega))
                        have VC := Lib.hid (VC.out.stays hbx)
                        have VG := Lib.hid (VG.out.stays hbx)
                        have VF := Lib.hid (VF.out.stays hbx)
                        have VH := Lib.hid (VH.out.stays hbx)
                        have R10 := Lib.hid (R8.out.trans (hbx.mono hz_y7))
                        have hz_y9 := R10.out.size
                        clear hb hbx  R8 hz_y7
                        rw [HDR.out]
                        go_wp2
                        go_ret
                        exact ⟨rfl, R10.out⟩
          ·
            refine zOpNew (j := 14) (d := (some 103)) (T := 5) (z := #[.int .u8 0]) (val := fun g => .slice (some ⟨g, 0, none⟩) 1 1) rfl rfl (by rfl) ?rz13 (fun gz v8 gz_ge gz_lt BZ hb8 => ⟨.inr (hHeld.trans (hb8.mono hHeld.size)), ?tz13⟩)
            case rz13 => go_simp; try with_reducible rfl
            case tz13 =>
              try simp only [Act.put, List.setIfInBounds_toArray, List.set_cons_zero, List.set_cons_succ]
              have hHeld := hHeld.trans (hb8.mono hHeld.size)
              refine zAlone (j := 7) (by kernel_rfl) ?_
              refine zOpNew (j := 7) (d := (some 96)) (T := 5) (z := #[]) (val := fun g => .slice (some ⟨g, 0, none⟩) 0 0) rfl rfl (by rfl) ?rz14 (fun gl v9 gl_ge gl_lt BL hb9 => ⟨.inr (hHeld.trans (hb9.mono hHeld.size)), ?tz14⟩)
              case rz14 => go_simp; try with_reducible rfl
              case tz14 =>
                try simp only [Act.put, List.setIfInBounds_toArray, List.set_cons_zero, List.set_cons_succ]
                have hL : World.ownsRow v9 wb.heap.size 5 1 (.slice (some ⟨gl, 0, none⟩) 0 0) 0 [] := ownE BL (Nat.le_trans hHeld.size gl_ge)
                have hHeld := hHeld.trans (hb9.mono hHeld.size)
                have BZ := BZ.stays hb9
                refine zAlone (j := 13) (by kernel_rfl) ?_
                refine zOpApp (j := 13) (d := (some 102)) (R := fun v w' => ∃ A8 c8, v = .slice A8 n1 c8 ∧ w'.ownsRow wb.heap.size 5 1 (.slice A8 n1 c8) n1 (d.map byteV) ∧ Below wb.heap.size v9 w' ∧ World.grownBy v9 w' (Value.slice (some ⟨gl, 0, none⟩) 0 0).ownBlock) rfl rfl (by rfl) rfl (by rfl) (by rfl) (by obtain ⟨A8, c8, w8, h1, h2, h3, h4⟩ := run_append_bytes hL (HY.out.stays (RX.out.trans (hHeld.mono RX.out.size))) (by omega) hHeld.size _; rw [Nat.zero_add] at h1 h2; rw [List.nil_append] at h2; exact ⟨_, w8, h1, A8, c8, rfl, h2, h3, h4⟩) (fun v v10 hRv => ?tz15)
                case tz15 =>
                  obtain ⟨A8, c8, rfl, hD, hb8, hg8⟩ := hRv
                  refine ⟨.inr (hHeld.trans hb8), ?_⟩
                  try simp only [Act.put, List.setIfInBounds_toArray, List.set_cons_zero, List.set_cons_succ]
                  have hHeld := hHeld.trans hb8
                  have BZ := BZ.grown hg8 (by simp [Value.ownBlock]; omega)
                  refine zAlone (j := 15) (by kernel_rfl) ?_
                  refine zOpApp (j := 15) (d := (some 104)) (R := fun v w' => ∃ A9 c9, v = .slice A9 (n1 + 1) c9 ∧ w'.ownsRow wb.heap.size 5 1 (.slice A9 (n1 + 1) c9) (n1 + 1) (d.map byteV ++ ([0] : List UInt8).map byteV) ∧ Below wb.heap.size v10 w') rfl rfl (by rfl) rfl (by rfl) (by rfl) (by obtain ⟨A9, c9, w9, h1, h2, h3, h4⟩ := run_append_bytes hD (bytes_blk1 BZ) (by omega) hHeld.size _; exact ⟨_, w9, h1, A9, c9, rfl, h2, h3⟩) (fun v v11 hRv => ?tz16)
                  case tz16 =>
                    obtain ⟨A9, c9, rfl, hE, hb9⟩ := hRv
                    refine ⟨.inr (hHeld.trans hb9), ?_⟩
                    try simp only [Act.put, List.setIfInBounds_toArray, List.set_cons_zero, List.set_cons_succ]
                    have hHeld := hHeld.trans hb9
                    refine zVal (i := 16) (d := (some 105)) (v := ?_) rfl rfl (by kernel_rfl) (by kernel_rfl) (by kernel_rfl) (by kernel_rfl) hPQ (by rfl) (fun wq hSw => ?_) hHeld ?_
                    rotate_left 1
                    · have cS0 := cell_stays (RX.out.trans (hSw.mono RX.out.size)) HC0.out; have cS1 := cell_stays (RX.out.trans (hSw.mono RX.out.size)) HC1.out; go_simp; try with_reducible rfl
                    try simp only [Act.put, List.setIfInBounds_toArray, List.set_cons_zero, List.set_cons_succ]
                    refine zVal (i := 17) (d := (some 106)) (v := ?_) rfl rfl (by kernel_rfl) (by kernel_rfl) (by kernel_rfl) (by kernel_rfl) hPQ (by rfl) (fun wq hSw => ?_) hHeld ?_
                    rotate_left 1
                    · have cS0 := cell_stays (RX.out.trans (hSw.mono RX.out.size)) HC0.out; have cS1 := cell_stays (RX.out.trans (hSw.mono RX.out.size)) HC1.out; go_simp; try with_reducible rfl
                    try simp only [Act.put, List.setIfInBounds_toArray, List.set_cons_zero, List.set_cons_succ]
                    refine zAlone (j := 18) (by kernel_rfl) ?_
                    have HG2 := HH.out.stays hHeld
                    obtain ⟨⟨x0, kx0⟩, ⟨x1, kx1⟩, fx0, fx1⟩ := HG2.cells hj2
                    refine zOpStore (j := 18) (w2 := (v11.setCell ⟨h_, j * 2, none⟩ (.int .i64 t)).setCell ⟨h_, j * 2 + 1, none⟩ (.slice A9 (n1 + 1) c9)) rfl rfl (by rfl) ?rz17 ⟨.inl (by decide), ?tz17⟩
                    case rz17 => go_simp; try with_reducible rfl
                    case tz17 =>
                      try simp only [Act.put, List.setIfInBounds_toArray, List.set_cons_zero, List.set_cons_succ]
                      refine zDone (by kernel_rfl) ?_ _
                      have hEB : Bytes v11 A9 (n1 + 1) c9 (d ++ [0]) := by have := own_rd hE; unfold Bytes; rw [List.map_append]; exact this
                      have D1 := Lib.hid (HG2.set (t := t) hj2 hEB (by obtain ⟨cur, hblk, _⟩ := HG2; exact off_own hE hblk (by decide)))
                      have RD := Lib.hid (show Below w.heap.size w ((v11.setCell ⟨h_, j * 2, none⟩ (.int .i64 t)).setCell ⟨h_, j * 2 + 1, none⟩ (.slice A9 (n1 + 1) c9)) from ((Rb.out.trans (hHeld.mono hz_wb)).setCell (p := ⟨h_, j * 2, none⟩) uH _).setCell (p := ⟨h_, j * 2 + 1, none⟩) uH _)
                      have RX := Lib.hid (show Below wr.heap.size wr ((v11.setCell ⟨h_, j * 2, none⟩ (.int .i64 t)).setCell ⟨h_, j * 2 + 1, none⟩ (.slice A9 (n1 + 1) c9)) from ((RX.out.trans (hHeld.mono RX.out.size)).setCell (p := ⟨h_, j * 2, none⟩) (Nat.le_trans xG vH) _).setCell (p := ⟨h_, j * 2 + 1, none⟩) (Nat.le_trans xG vH) _)
                      have RV := Lib.hid (show Below wv.heap.size wv ((v11.setCell ⟨h_, j * 2, none⟩ (.int .i64 t)).setCell ⟨h_, j * 2 + 1, none⟩ (.slice A9 (n1 + 1) c9)) from ((RV.out.trans (hHeld.mono RV.out.size)).setCell (p := ⟨h_, j * 2, none⟩) vH _).setCell (p := ⟨h_, j * 2 + 1, none⟩) vH _)
                      clear kx0 kx1 fx0 fx1 HG2 HH hHeld hE hEB
                      generalize (v11.setCell ⟨h_, j * 2, none⟩ (.int .i64 t)).setCell ⟨h_, j * 2 + 1, none⟩ (.slice A9 (n1 + 1) c9) = wz at *
                      have HH := D1
                      clear D1
                      have RD2 := RD
                      have hz_wz := RD2.out.size
                      go_wp2_with fail
                      refine (extKnown _).mono ?_
                      rintro e y1 ⟨rfl, hb⟩
                      have hbx : Below wz.heap.size wz y1 := below_via (by go_grown) hb (by first | (simp; done) | (simp; omega))
                      have RX := Lib.hid (RX.out.trans (hbx.mono RX.out.size))
                      have RV := Lib.hid (RV.out.trans (hbx.mono RV.out.size))
                      have HH := Lib.hid (HH.out.stays hbx)
                      have R2 := Lib.hid (RD2.out.trans (hbx.mono hz_wz))
                      have hz_y1 := R2.out.size
                      clear hb hbx  RD2 hz_wz
                      clear xG
                      have hq1 : Below y1.heap.size y1 (y1.alloc (.cells #[] 38)) := below_alloc1 _ _
                      have xG : wr.heap.size ≤ y1.heap.size := RX.out.size
                      go_wp2_with (at_builtin; (refine wpList_append_g (vs := .slice (some ⟨y1.heap.size, 0, none⟩) 0 0) (vx := .slice (some ⟨bb, off, none⟩) k fc) rfl _ _ 32 rfl rfl rfl (R := fun v w' => ∃ A8 c8, v = .slice A8 k c8 ∧ FldsA w' y1.heap.size A8 k c8 F ∧ Below y1.heap.size _ w') (by obtain ⟨A8, c8, w8, h1, h2, h3, h4⟩ := run_append_flds VF.out (RX.out.trans (hq1.mono RX.out.size)) (fld_lit _ _ (Nat.le_refl _)) RX.out.size (by omega) (by simp) _; rw [Nat.zero_add] at h1 h2; rw [List.nil_append] at h2; exact ⟨_, w8, h1, A8, c8, rfl, h2, h4⟩) ?_; rintro v wc ⟨Ac, cc, rfl, hO, hb8⟩; have HQc := Lib.hid (hq1.trans hb8); have HOc := Lib.hid hO; clear hO hb8))
                      clear hq1
                      have RX := Lib.hid (RX.out.trans (HQc.out.mono RX.out.size))
                      have RV := Lib.hid (RV.out.trans (HQc.out.mono RV.out.size))
                      have HH := Lib.hid (HH.out.stays HQc.out)
                      have Rc := Lib.hid (R2.out.trans (HQc.out.mono hz_y1))
                      have hz_wc := Rc.out.size
                      have VC := Lib.hid HOc.out.flds
                      clear HQc HOc
                      have VG := Lib.hid (HG.out.flds.stays RV.out)
                      have VF := Lib.hid (VF.out.stays RX.out)
                      have VH := Lib.hid HH.out.flds
                      clear RX RV HG HH HC0 HC1 HY
                      have hc1F := run_cut1F (A := some ⟨bb, off, none⟩) (n := k) (c := fc) hk1 rfl rfl
                      go_wp2_with fail
                      refine (sameE_any _ _ _ _ _ _ _ _ _ VF.out VC.out).mono ?_
                      rintro e y3 ⟨rfl, hb⟩
                      have hbx : Below wc.heap.size wc y3 := below_via (by go_grown) hb (by first | (simp; done) | (simp; omega))
                      have VC := Lib.hid (VC.out.stays hbx)
                      have VG := Lib.hid (VG.out.stays hbx)
                      have VF := Lib.hid (VF.out.stays hbx)
                      have VH := Lib.hid (VH.out.stays hbx)
                      have R4 := Lib.hid (Rc.out.trans (hbx.mono hz_wc))
                      have hz_y3 := R4.out.size
                      clear hb hbx  Rc hz_wc
                      rw [decide_eq_true (rfl : F = F)]
                      go_wp2_with fail
                      refine (sameE_any _ _ _ _ _ _ _ _ _ VF.out VG.out).mono ?_
                      rintro e y5 ⟨rfl, hb⟩
                      have hbx : Below y3.heap.size y3 y5 := below_via (by go_grown) hb (by first | (simp; done) | (simp; omega))
                      have VC := Lib.hid (VC.out.stays hbx)
                      have VG := Lib.hid (VG.out.stays hbx)
                      have VF := Lib.hid (VF.out.stays hbx)
                      have VH := Lib.hid (VH.out.stays hbx)
                      have R6 := Lib.hid (R4.out.trans (hbx.mono hz_y3))
                      have hz_y5 := R6.out.size
                      clear hb hbx  R4 hz_y3
                      rw [HT2.out]
                      go_wp2_with fail
                      refine (sameE_any _ _ _ _ _ _ _ _ _ VF.out VH.out).mono ?_
                      rintro e y7 ⟨rfl, hb⟩
                      have hbx : Below y5.heap.size y5 y7 := below_via (by go_grown) hb (by first | (simp; done) | (simp; omega))
                      have VC := Lib.hid (VC.out.stays hbx)
                      have VG := Lib.hid (VG.out.stays hbx)
                      have VF := Lib.hid (VF.out.stays hbx)
                      have VH := Lib.hid (VH.out.stays hbx)
                      have R8 := Lib.hid (R6.out.trans (hbx.mono hz_y5))
                      have hz_y7 := R8.out.size
                      clear hb hbx  R6 hz_y5
                      rw [HD2.out]
                      go_wp2_with fail
                      refine (sameE_any _ _ _ _ _ _ _ _ _ VF.out (VF.out.cut1 hk1 rfl rfl)).mono ?_
                      rintro e y9 ⟨rfl, hb⟩
                      have hbx : Below y7.heap.size y7 y9 := below_via (by go_grown) hb (by first | (simp; done) | (simp; omega))
                      have VC := Lib.hid (VC.out.stays hbx)
                      have VG := Lib.hid (VG.out.stays hbx)
                      have VF := Lib.hid (VF.out.stays hbx)
                      have VH := Lib.hid (VH.out.stays hbx)
                      have R10 := Lib.hid (R8.out.trans (hbx.mono hz_y7))
                      have hz_y9 := R10.out.size
                      clear hb hbx  R8 hz_y7
                      rw [HDR.out]
                      go_wp2
                      go_ret
                      exact ⟨rfl, R10.out⟩
end Go.Proofs.Ytofadjcphaehcaa
