/- The reference's Encode of coarse-time messages. -/
import Derived.Test.YtbjmojajhkhekaaRgC
namespace Go.Proofs.Ytbjmojajhkhekaa
open Go Go.RowKit

theorem refPut_own (v n : Nat) (hn : n ≤ 64) (w : World) :
    Calls Try.prog 54 #[.int .u64 v, .int .i64 n] w fun e w' => ∃ A c, e = .returned (.slice A n c) ∧ w'.ownsRow w.heap.size 5 1 (.slice A n c) n ((putL v n).map byteV) ∧ Below w.heap.size w w' := by
  refine (refPut_any v n hn w).mono fun e w' h => ?_
  obtain ⟨rfl, rfl⟩ := h
  have := World.ownsRow_lit (base := w.heap.size) (e := 5) (size := 1) w ((putL v n).map byteV).toArray n (Nat.le_refl _) (by unfold maxLen; omega) (by simp [putL_length])
  exact ⟨_, _, rfl, by simpa using this, (Below.refl _ _).alloc (Nat.le_refl _) _⟩
set_option maxRecDepth 100000 in
set_option maxHeartbeats 4000000 in
theorem refEncode_any28 (A : Option Addr) (n c : Nat) (ts : Tags) (w : World) (hv : TagL w A n c ts) (hf : ∀ k, (tgD ts k).length ≤ 100000) :
    Calls Try.prog 17 #[.slice A n c] w fun e w' => ∃ A' m c', e = .returned (.tuple #[.slice A' m c', .int .i64 (encR ts).2]) ∧ Bytes w' A' m c' (encR ts).1 ∧ Below w.heap.size w w' := by
  have hcap := hv.cap
  have hle0 := hv.le
  have HL := Lib.hid hv.len
  have HV := Lib.hid hv
  have HF := Lib.hid hf
  clear hv hf
  by_cases hn0 : n < 1
  ·
    have q1 : (n : Int) < 1 := by omega
    have HE := Lib.hid (encR_limit HL.out (.inl hn0))
    go_enter Try.func17, Try.ntmps17
    go_wp2
    go_returns
    exact ⟨none, 0, 0, by rw [HE.out]; rfl, by rw [HE.out]; exact Rd.nil _ _ _ (by decide) _, Below.refl _ _⟩
  by_cases hn16 : 16 < n
  ·
    have q1 : ¬ (n : Int) < 1 := by omega
    have q2 : (16 : Int) < (n : Int) := by omega
    have HE := Lib.hid (encR_limit HL.out (.inr hn16))
    go_enter Try.func17, Try.ntmps17
    go_wp2
    go_returns
    exact ⟨none, 0, 0, by rw [HE.out]; rfl, by rw [HE.out]; exact Rd.nil _ _ _ (by decide) _, Below.refl _ _⟩
  have q1 : ¬ (n : Int) < 1 := by omega
  have q2 : ¬ (16 : Int) < (n : Int) := by omega
  have HDL := Lib.hid (fun k (hk : k ≤ 16) => show dl ts k ≤ 1600000 from Nat.le_trans (dl_le ts 100000 HF.out k) (by omega))
  go_enter Try.func17, Try.ntmps17
  go_wp2_with fail
  go_loopw [4, 5] (fun s i wr => ∃ k z : Nat, k ≤ n ∧ i = .int .i64 k ∧ s = .int .i64 z ∧ Hid (z = 8 * n + dl ts k) ∧ Hid (firstErr ts k = 0) ∧ Below w.heap.size w wr) (fun _ i _ => n - (intOf i).toNat)
  case atStart => exact ⟨0, 8 * n, Nat.zero_le _, rfl, by go_num, rfl, rfl, Below.refl _ _⟩
  case round =>
    obtain ⟨k, z, hk, rfl, rfl, HZ, H0, hbr⟩ := hrel
    have RW := Lib.hid hbr
    have hz_wr := hbr.size
    have hz9 : z ≤ 1700000 := by rw [HZ.out]; have := HDL.out k (by omega); omega
    by_cases hkn : k < n
    ·
      have hki : (k : Int) < (n : Int) := by omega
      obtain ⟨bb, off, A', n', c', rfl, hc0, hc1, hy⟩ := (HV.out.stays hbr).at_ hkn
      have HE0 := Lib.hid (tagErr_eq ts k)
      have hyn : n' ≤ 100000 := by rw [← hy.len]; exact HF.out k
      have hnle := hy.le
      have hncap := hy.cap
      have HDN : Hid (dl ts (k + 1) = dl ts k + n') := by rw [Hid, dl, hy.len]
      rw [hy.len] at HE0
      clear hbr hy
      obtain ⟨nm, hnm⟩ : ∃ nm, tgN ts k = nm := ⟨_, rfl⟩
      have HNM := Lib.hid hnm
      rw [hnm] at hc0 HE0
      clear hnm
      go_wp2_with fail
      refine (refNamed_any nm _).mono ?_
      rintro e q_ ⟨rfl, rfl⟩
      by_cases hno : nameOk nm
      case neg =>
        have HN : Hid (firstErr ts n = 11) := firstErr_at ts k n H0.out hkn (by rw [HE0.out]; exact if_pos hno) (by decide)
        have HE := Lib.hid (encR_err HL.out (by omega) (by omega) HN.out (by decide))
        rw [decide_eq_false hno]
        clear hno
        go_wp2
        go_returns
        exact ⟨none, 0, 0, by rw [HE.out]; rfl, by rw [HE.out]; exact Rd.nil _ _ _ (by decide) _, RW.out⟩
      rw [decide_eq_true hno]
      have HNO := Lib.hid hno
      obtain ⟨la, hla⟩ : ∃ la, lstT ts k = la := ⟨_, rfl⟩
      have HLA := Lib.hid hla
      obtain ⟨bl, hbl⟩ : ∃ bl, Op.bytesLess la.toList nm.toList = bl := ⟨_, rfl⟩
      have HBL := Lib.hid hbl
      rw [hla] at HE0
      clear hno hla
      by_cases hk0 : k = 0
      ·
        have hkz : ¬ (0 : Int) < (k : Int) := by omega
        have hkp : ¬ 0 < k := by omega
        obtain rfl : bl = true := by
          rw [← hbl, ← HLA.out, hk0]
          exact empty_less HNO.out.1
        clear hbl hk0
        go_wp2_with fail
        refine region_still (by kernel_rfl) (by kernel_rfl) ?_
        repeat ((with_reducible refine wpStill_step (fun K hK => ?_)); go_simp; (with_reducible refine hK _ ?_); clear hK K)
        refine wpStill_nil ?_
        have ht4 : Int.tmod (n' : Int) 4 = ((n' % 4 : Nat) : Int) := by rw [Int.tmod_eq_emod_of_nonneg (by omega)]; omega
        obtain ⟨m4, hm4⟩ : ∃ m4, n' % 4 = m4 := ⟨_, rfl⟩
        rw [hm4] at ht4 HE0
        clear hm4
        by_cases hm0 : m4 = 0
        ·
          subst hm0
          have H1 : Hid (firstErr ts (k + 1) = 0) := firstErr_next ts k H0.out (by rw [HE0.out, if_neg (fun q => q HNO.out), if_neg (fun q => by rw [HBL.out] at q; cases q), if_neg (by decide)])
          go_wp2
          go_roundw
          case rel => exact ⟨k + 1, z + n', by omega, by go_num, by go_num, by rw [Hid, HDN.out, HZ.out]; omega, H1, RW.out.drew⟩
          case measure => simp [intOf]; omega
        ·
          have hm0i : ¬ ((m4 : Nat) : Int) = 0 := by omega
          have hm0b : (((m4 : Nat) : Int) != 0) = true := by simpa [bne] using hm0
          have HN : Hid (firstErr ts n = 3) := firstErr_at ts k n H0.out hkn (by rw [HE0.out]; rw [if_neg (fun q => q HNO.out), if_neg (fun q => by rw [HBL.out] at q; cases q), if_pos hm0]) (by decide)
          have HE := Lib.hid (encR_err HL.out (by omega) (by omega) HN.out (by decide))
          go_wp2
          go_returns
          exact ⟨none, 0, 0, by rw [HE.out]; rfl, by rw [HE.out]; exact Rd.nil _ _ _ (by decide) _, RW.out.drew⟩
      ·
        have hkz : (0 : Int) < (k : Int) := by omega
        have hkp : 0 < k := by omega
        obtain ⟨j, hj⟩ : ∃ j, k = j + 1 := ⟨k - 1, by omega⟩
        have hji : (k : Int) - 1 = (j : Int) := by omega
        have hjw : IntKind.i64.wrap (j : Int) = (j : Int) := IntWalk.i64_in _ (by omega)
        have hjn : (j : Int) < (n : Int) := by omega
        obtain ⟨bb2, off2, A2, n2, c2, e2, hd0, hd1, _⟩ := (HV.out.stays RW.out).at_ (show j < n by omega)
        simp only [Option.some.injEq, Addr.mk.injEq] at e2
        obtain ⟨rfl, rfl, _⟩ := e2
        have hlj : tgN ts j = la := by rw [← HLA.out, lstT, if_neg hk0, hj]; rfl
        rw [hlj] at hd0
        clear hd1 hlj hk0 hj
        cases bl with
        | false =>
          have HN : Hid (firstErr ts n = 12) := firstErr_at ts k n H0.out hkn (by rw [HE0.out]; rw [if_neg (fun q => q HNO.out), if_pos HBL.out]) (by decide)
          have HE := Lib.hid (encR_err HL.out (by omega) (by omega) HN.out (by decide))
          go_wp2_with fail
          refine region_still (by kernel_rfl) (by kernel_rfl) ?_
          repeat ((with_reducible refine wpStill_step (fun K hK => ?_)); go_simp; (with_reducible refine hK _ ?_); clear hK K)
          refine wpStill_nil ?_
          go_wp2
          go_returns
          exact ⟨none, 0, 0, by rw [HE.out]; rfl, by rw [HE.out]; exact Rd.nil _ _ _ (by decide) _, RW.out.drew⟩
        | true =>
          go_wp2_with fail
          refine region_still (by kernel_rfl) (by kernel_rfl) ?_
          repeat ((with_reducible refine wpStill_step (fun K hK => ?_)); go_simp; (with_reducible refine hK _ ?_); clear hK K)
          refine wpStill_nil ?_
          have ht4 : Int.tmod (n' : Int) 4 = ((n' % 4 : Nat) : Int) := by rw [Int.tmod_eq_emod_of_nonneg (by omega)]; omega
          obtain ⟨m4, hm4⟩ : ∃ m4, n' % 4 = m4 := ⟨_, rfl⟩
          rw [hm4] at ht4 HE0
          clear hm4
          by_cases hm0 : m4 = 0
          ·
            subst hm0
            have H1 : Hid (firstErr ts (k + 1) = 0) := firstErr_next ts k H0.out (by rw [HE0.out, if_neg (fun q => q HNO.out), if_neg (fun q => by rw [HBL.out] at q; cases q), if_neg (by decide)])
            go_wp2
            go_roundw
            case rel => exact ⟨k + 1, z + n', by omega, by go_num, by go_num, by rw [Hid, HDN.out, HZ.out]; omega, H1, RW.out.drew⟩
            case measure => simp [intOf]; omega
          ·
            have hm0i : ¬ ((m4 : Nat) : Int) = 0 := by omega
            have hm0b : (((m4 : Nat) : Int) != 0) = true := by simpa [bne] using hm0
            have HN : Hid (firstErr ts n = 3) := firstErr_at ts k n H0.out hkn (by rw [HE0.out]; rw [if_neg (fun q => q HNO.out), if_neg (fun q => by rw [HBL.out] at q; cases q), if_pos hm0]) (by decide)
            have HE := Lib.hid (encR_err HL.out (by omega) (by omega) HN.out (by decide))
            go_wp2
            go_returns
            exact ⟨none, 0, 0, by rw [HE.out]; rfl, by rw [HE.out]; exact Rd.nil _ _ _ (by decide) _, RW.out.drew⟩
    obtain rfl : k = n := by omega
    clear hkn
    by_cases h20 : 2048 < z
    ·
      have q3 : (2048 : Int) < (z : Int) := by omega
      have HE := Lib.hid (encR_long HL.out (by omega) (by omega) H0.out (by rw [← HZ.out]; exact h20))
      go_wp2
      go_returns
      exact ⟨none, 0, 0, by rw [HE.out]; rfl, by rw [HE.out]; exact Rd.nil _ _ _ (by decide) _, RW.out⟩
    have q3 : ¬ (2048 : Int) < (z : Int) := by omega
    have HE := Lib.hid (encR_ok HL.out (by omega) (by omega) H0.out (by rw [← HZ.out]; exact h20))
    have HOK := Lib.hid (fun j (hj : j < k) => tagErr_0 (firstErr_ok ts k H0.out j hj))
    go_wp2_with fail
    refine (refPut_own k 4 (by decide) _).mono ?_
    rintro e y1 ⟨Aq, cq, rfl, hq, hb⟩
    have hbx : Below wr.heap.size wr y1 := below_via (by go_grown) hb (by first | (simp; done) | (simp; omega))
    have HO := Lib.hid (own_more (B' := w.heap.size) hq hz_wr)
    have R2 := Lib.hid (RW.out.trans (hbx.mono hz_wr))
    have hz_y1 := R2.out.size
    clear hb hbx  RW hz_wr
    clear hq
    obtain ⟨i0, hi, hz0, hz1, hz2⟩ := info_parts infoByteA
    go_wp2_with fail
    go_loopw [6, 7, 8] (fun so sp i wr => ∃ (j p m co : Nat) (AO : Option Addr), j + 1 ≤ k ∧ i = .int .i64 j ∧ sp = .int .i64 p ∧ so = .slice AO m co ∧ Hid (p = dl ts j ∧ m = 4 + 4 * j) ∧ Hid (wr.ownsRow w.heap.size 5 1 (.slice AO m co) m ((putL k 4 ++ plcT ts (j + 1)).map byteV)) ∧ Below w.heap.size w wr) (fun _ _ i _ => k - (intOf i).toNat)
    case atStart => exact ⟨0, 0, 4, cq, Aq, by omega, rfl, rfl, rfl, ⟨rfl, rfl⟩, by rw [Hid, plcT, if_pos rfl, List.append_nil]; exact HO.out, R2.out⟩
    case round =>
      clear HO R2 hz_y1
      obtain ⟨j, p, m, co, AO, hj, rfl, rfl, rfl, HQ, HO, hbr⟩ := hrel
      have RW := Lib.hid hbr
      have hz_wr := hbr.size
      have o1 := (own_rd HO.out).2.1
      have o2 : co ≤ 9223372036854775807 := by have := (own_rd HO.out).2.2.1; unfold maxLen at this; exact this
      have hp9 : p ≤ 1600000 := by rw [HQ.out.1]; exact HDL.out j (by omega)
      have hm9 : m ≤ 1000 := by rw [HQ.out.2]; omega
      clear hbr
      by_cases hjk : j + 1 < k
      ·
        have hji : (j : Int) + 1 < (k : Int) := by omega
        have hji2 : (j : Int) < (k : Int) := by omega
        obtain ⟨bb, off, A', n', c', rfl, hc0, hc1, hy⟩ := (HV.out.stays RW.out).at_ (show j < k by omega)
        have hyn : n' ≤ 100000 := by rw [← hy.len]; exact HF.out j
        have HDN : Hid (dl ts (j + 1) = p + n') := by rw [Hid, dl, hy.len, HQ.out.1]
        have HPN : Hid (plcT ts (j + 1 + 1) = plcT ts (j + 1) ++ putL (p + n') 4) := by rw [Hid, plcT, if_neg (by omega), HDN.out]
        clear hy
        obtain ⟨q, hq⟩ : ∃ q, p + n' = q := ⟨_, rfl⟩
        have hqi : (p : Int) + (n' : Int) = (q : Int) := by omega
        rw [hq] at HDN HPN
        have hq9 : q ≤ 1700000 := by omega
        clear hq
        go_wp2_with fail
        refine (refPut_reads q 4 (by decide) _).mono ?_
        rintro e y3 ⟨Ap, cp, rfl, hq, hb⟩
        have hbx : Below wr.heap.size wr y3 := below_via (by go_grown) hb (by first | (simp; done) | (simp; omega))
        have HO := Lib.hid (own_below HO.out hbx)
        have VQ := Lib.hid hq
        have R4 := Lib.hid (RW.out.trans (hbx.mono hz_wr))
        have hz_y3 := R4.out.size
        clear hb hbx hq RW hz_wr
        go_wp2_with (at_builtin; refine wpList_append_rd rfl _ _ 28 rfl i0 (.int .u8 0) 1 Try.underlying28 hi hz0 hz1 hz2 rfl (by decide) rfl HO.out rfl VQ.out (oneCell_bytes _) (by unfold maxLen; omega) (by omega) hz_y3 ?_; intro A8 c8 w8 hown8 hg8 hb8; have HO8 := Lib.hid hown8; have HB8 := Lib.hid hb8; clear hown8 hg8 hb8)
        have R8 := Lib.hid (R4.out.trans HB8.out)
        clear HB8
        go_wp2
        go_roundw
        case rel => exact ⟨j + 1, q, m + 4, c8, A8, by omega, by go_num, rfl, rfl, ⟨HDN.out.symm, by rw [HQ.out.2]; omega⟩, by rw [Hid, HPN.out, ← List.append_assoc, List.map_append]; exact HO8.out, R8.out⟩
        case measure => simp [intOf]; omega
      have hjk1 : j + 1 = k := by omega
      have hji : ¬ (j : Int) + 1 < (k : Int) := by omega
      rw [hjk1] at HO
      have HM : Hid (m = 4 + 4 * (k - 1)) := by rw [Hid, HQ.out.2]; omega
      obtain ⟨PL, hPL⟩ : ∃ PL, putL k 4 ++ plcT ts k = PL := ⟨_, rfl⟩
      have HPL := Lib.hid hPL
      rw [hPL] at HO
      clear hPL
      go_wp2_with fail
      go_loopw [6, 9] (fun so i wr => ∃ (j m2 co : Nat) (AO : Option Addr), j ≤ k ∧ i = .int .i64 j ∧ so = .slice AO m2 co ∧ Hid (m2 = m + 4 * j) ∧ Hid (wr.ownsRow w.heap.size 5 1 (.slice AO m2 co) m2 ((PL ++ nmT ts j).map byteV)) ∧ Below w.heap.size w wr) (fun _ i _ => k - (intOf i).toNat)
      case atStart => exact ⟨0, m, co, AO, by omega, rfl, rfl, rfl, by rw [Hid, nmT, List.append_nil]; exact HO.out, RW.out⟩
      case round =>
        clear HO RW hz_wr o1 o2 HQ hj hjk hjk1 hji
        obtain ⟨j, m2, co, AO, hj, rfl, rfl, HQ, HO, hbr⟩ := hrel
        have RW := Lib.hid hbr
        have hz_wr := hbr.size
        have o1 := (own_rd HO.out).2.1
        have o2 : co ≤ 9223372036854775807 := by have := (own_rd HO.out).2.2.1; unfold maxLen at this; exact this
        have hm9 : m2 ≤ 2000 := by rw [HQ.out]; omega
        clear hbr
        by_cases hjk : j < k
        ·
          have hji2 : (j : Int) < (k : Int) := by omega
          obtain ⟨bb, off, A', n', c', rfl, hc0, hc1, hy⟩ := (HV.out.stays RW.out).at_ (show j < k by omega)
          have hyn : n' ≤ 100000 := by rw [← hy.len]; exact HF.out j
          have HNN : Hid (nmT ts (j + 1) = nmT ts j ++ (tgN ts j).data.toList) := rfl
          have hs4 : (tgN ts j).size = 4 := (HOK.out j hjk).1.1
          obtain ⟨nm, hnm⟩ : ∃ nm, tgN ts j = nm := ⟨_, rfl⟩
          rw [hnm] at hc0 HNN hs4
          have HS4 := Lib.hid hs4
          clear hy hnm hc1
          go_wp2_with (at_builtin; refine wpList_append_h (vs := .slice AO m2 co) (vx := .string nm) rfl _ _ 28 9 rfl rfl rfl (R := fun v w' => ∃ A8 c8, v = .slice A8 (m2 + 4) c8 ∧ w'.ownsRow w.heap.size 5 1 (.slice A8 (m2 + 4) c8) (m2 + 4) ((PL ++ nmT ts j).map byteV ++ nm.data.toList.map byteV) ∧ Below w.heap.size wr w') (by obtain ⟨A8, c8, w8, h1, h2, h3, h4⟩ := run_append_str (P := Try.prog) 28 9 _ 5 i0 Try.underlying28 Try.underlying9 hi hz0 hz1 hz2 HO.out nm (by omega) hz_wr; rw [HS4.out] at h1 h2; exact ⟨_, w8, h1, A8, c8, rfl, h2, (Below.refl _ wr).grown h3 hz_wr (fun q hq => (HO.out.lt q hq).1)⟩) ?_; rintro v w8 ⟨A8, c8, rfl, hO, hb8⟩; have HO8 := Lib.hid hO; have HB8 := Lib.hid hb8; clear hO hb8)
          have R8 := Lib.hid (RW.out.trans HB8.out)
          clear HB8
          go_wp2
          go_roundw
          case rel => exact ⟨j + 1, m2 + 4, c8, A8, by omega, by go_num, rfl, by rw [Hid, HQ.out]; omega, by rw [Hid, HNN.out, ← List.append_assoc, List.map_append]; exact HO8.out, R8.out⟩
          case measure => simp [intOf]; omega
        obtain rfl : j = k := by omega
        obtain ⟨QL, hQL⟩ : ∃ QL, PL ++ nmT ts j = QL := ⟨_, rfl⟩
        have HQL := Lib.hid hQL
        rw [hQL] at HO
        clear hQL hj hjk
        go_wp2_with fail
        go_loopw [6, 10] (fun so i wr => ∃ (q m3 co : Nat) (AO : Option Addr), q ≤ j ∧ i = .int .i64 q ∧ so = .slice AO m3 co ∧ Hid (m3 = m2 + dl ts q) ∧ Hid (wr.ownsRow w.heap.size 5 1 (.slice AO m3 co) m3 ((QL ++ daT ts q).map byteV)) ∧ Below w.heap.size w wr) (fun _ i _ => j - (intOf i).toNat)
        case atStart => exact ⟨0, m2, co, AO, by omega, rfl, rfl, rfl, by rw [Hid, daT, List.append_nil]; exact HO.out, RW.out⟩
        case round =>
          clear HO RW hz_wr o1 o2
          obtain ⟨q, m3, co, AO, hq, rfl, rfl, HQ3, HO, hbr⟩ := hrel
          have RW := Lib.hid hbr
          have hz_wr := hbr.size
          have o1 := (own_rd HO.out).2.1
          have o2 : co ≤ 9223372036854775807 := by have := (own_rd HO.out).2.2.1; unfold maxLen at this; exact this
          have hm39 : m3 ≤ 1700000 := by rw [HQ3.out]; have := HDL.out q (by omega); omega
          clear hbr
          by_cases hjk : q < j
          ·
            have hji2 : (q : Int) < (j : Int) := by omega
            obtain ⟨bb, off, A', n', c', rfl, hc0, hc1, hy⟩ := (HV.out.stays RW.out).at_ (show q < j by omega)
            have hyn : n' ≤ 100000 := by rw [← hy.len]; exact HF.out q
            have HDN : Hid (dl ts (q + 1) = dl ts q + n') := by rw [Hid, dl, hy.len]
            have HAN : Hid (daT ts (q + 1) = daT ts q ++ tgD ts q) := rfl
            obtain ⟨d, hd⟩ : ∃ d, tgD ts q = d := ⟨_, rfl⟩
            rw [hd] at hy HAN
            have HY := Lib.hid hy
            clear hy hd hc0
            go_wp2_with (at_builtin; refine wpList_append_rd rfl _ _ 28 rfl i0 (.int .u8 0) 1 Try.underlying28 hi hz0 hz1 hz2 rfl (by decide) rfl HO.out rfl HY.out (oneCell_bytes _) (by unfold maxLen; omega) (by omega) hz_wr ?_; intro A8 c8 w8 hown8 hg8 hb8; have HO8 := Lib.hid hown8; have HB8 := Lib.hid hb8; clear hown8 hg8 hb8)
            have R8 := Lib.hid (RW.out.trans HB8.out)
            clear HB8
            go_wp2
            go_roundw
            case rel => exact ⟨q + 1, m3 + n', c8, A8, by omega, by go_num, rfl, by rw [Hid, HQ3.out, HDN.out]; omega, by rw [Hid, HAN.out, ← List.append_assoc, List.map_append]; exact HO8.out, R8.out⟩
            case measure => simp [intOf]; omega
          obtain rfl : q = j := by omega
          go_wp2
          go_returns
          exact ⟨AO, m3, co, by rw [HE.out]; rfl, by rw [HE.out]; have := own_rd HO.out; rw [← HQL.out, ← HPL.out] at this; exact this, RW.out⟩
end Go.Proofs.Ytbjmojajhkhekaa
