/- The walk of TopHoldover. -/
import Derived.Test.YtofadjcphaehcaaRou
import Derived.Test.YtofadjcphaehcaaOpen
import Derived.Deep.RegionHeld3
namespace Go.Proofs.Ytofadjcphaehcaa
open Go Go.RowKit

def hAt (l : List Int) (i : Nat) : Int := l.getD i 0
theorem nums_at {k : IntKind} {w : World} {A : Option Addr} {n c : Nat} {l : List Int} (h : Nums k w A n c l) {i : Nat} (hi : i < n) : ∃ b off, A = some ⟨b, off, none⟩ ∧ w.cell? ⟨b, off + i, none⟩ = some (.int k (hAt l i)) := by
  have hl : l.length = n := by have := h.1.1; simpa using this
  refine h.1.2.2.2 i (.int k (hAt l i)) ?_
  rw [List.getElem?_map]
  have : l[i]? = some (hAt l i) := by unfold hAt; simp [List.getD, hl, hi]
  rw [this]
  rfl
theorem Nums.stays {k : IntKind} {w w' : World} {A : Option Addr} {n c : Nat} {l : List Int} (h : Nums k w A n c l) (hb : Below w.heap.size w w') : Nums k w' A n c l := ⟨h.1.stays hb, h.2⟩
/-- What is known of the span and of true time behind k readings. -/
def HInv (k : Nat) (lo hi t : Int) : Prop := -1000 ≤ lo ∧ lo ≤ t ∧ t ≤ hi ∧ hi - lo ≤ 499 + (k : Int) * 2199023255552 ∧ hi ≤ 1498 + (k : Int) * 1125899906842624
theorem HInv.ok {k : Nat} {lo hi t : Int} (h : HInv k lo hi t) (hk : k ≤ 12) : spanOk lo hi := by
  unfold HInv at h; unfold spanOk tickOk; omega
theorem HInv.next {k : Nat} {lo hi t : Int} (h : HInv k lo hi t) {e d p : Nat} (hd : d < 562949953421312) (hp : p ≤ 1000000) (hf : fitsB e d p = true) : HInv (k + 1) (lo + (eLo d p : Nat)) (hi + (eHi d p : Nat)) (t + (e : Int)) := by
  have h1 := fits_holds hp hf
  have h2 := el_wide hd hp
  have h3 := el_lt hd hp
  unfold HInv at h ⊢
  omega
set_option maxRecDepth 100000 in
set_option maxHeartbeats 4000000 in
theorem topHoldover_walk (a b t pp : Int) (A4 : Option Addr) (n4 c4 : Nat) (l4 : List Int) (A5 : Option Addr) (n5 c5 : Nat) (l5 : List Int) (W : World) (h4 : Nums .i64 W A4 n4 c4 l4) (h5 : Nums .i64 W A5 n5 c5 l5) : Calls Try.prog 14 #[.int .i64 a, .int .i64 b, .int .i64 t, .int .i64 pp, .slice A4 n4 c4, .slice A5 n5 c5] W fun e w' => e = .returned (.bool true) ∧ Below W.heap.size W w' := by
  have H4 := Lib.hid h4
  have H5 := Lib.hid h5
  have hl4 := h4.1.2.1
  have hm4 := h4.1.2.2.1
  have hl5 := h5.1.2.1
  have hm5 := h5.1.2.2.1
  unfold maxLen at hm4 hm5
  clear h4 h5
  by_cases hn : n4 ≤ 12 ∧ n5 ≤ 12
  case neg =>
    have hq : decide ((n4 : Int) > 12) = true ∨ decide ((n4 : Int) > 12) = false ∧ decide ((n5 : Int) > 12) = true := by
      by_cases h : (n4 : Int) > 12
      · exact Or.inl (decide_eq_true h)
      · exact Or.inr ⟨decide_eq_false h, decide_eq_true (by omega)⟩
    clear hn
    go_enter Try.func14, Try.ntmps14
    rcases hq with hq | ⟨hq, hq2⟩
    all_goals
      go_wp2_with fail
      refine (roused15_ok _).mono ?_
      rintro e y1 ⟨rfl, hb⟩
      go_wp2
      go_ret
      exact ⟨rfl, hb⟩
  obtain ⟨hn4, hn5⟩ := hn
  have q1 : decide ((n4 : Int) > 12) = false := decide_eq_false (by omega)
  have q2 : decide ((n5 : Int) > 12) = false := decide_eq_false (by omega)
  obtain ⟨p, hpp⟩ : ∃ p : Nat, pp % 1000001 = (p : Int) := ⟨(pp % 1000001).toNat, by omega⟩
  have hp : p ≤ 1000000 := by omega
  have CP := Lib.hid (fun w => within_any pp 1000001 (by decide) (by decide) w)
  rw [hpp] at CP
  clear hpp
  have r1 := wLo_in a
  have r2 := wHi_in a b
  have CA := Lib.hid (fun w => wspan_any a b w)
  obtain ⟨x, hx⟩ : ∃ x, wLo a = x := ⟨_, rfl⟩
  obtain ⟨y, hy⟩ : ∃ y, wHi a b = y := ⟨_, rfl⟩
  rw [hx] at r1 r2 CA
  rw [hy] at r2 CA
  clear hx hy
  obtain ⟨m0, hm0⟩ : ∃ m0, y - x = m0 := ⟨_, rfl⟩
  obtain ⟨m1, hm1⟩ : ∃ m1, m0 + 1 = m1 := ⟨_, rfl⟩
  have CT := Lib.hid (fun w => within_any t m1 (by omega) (by omega) w)
  obtain ⟨z, hz⟩ : ∃ z, t % m1 = z := ⟨_, rfl⟩
  rw [hz] at CT
  have hz1 : 0 ≤ z := by rw [← hz]; exact Int.emod_nonneg _ (by omega)
  have hz2 : z < m1 := by rw [← hz]; exact Int.emod_lt_of_pos _ (by omega)
  clear hz
  obtain ⟨now, hnow⟩ : ∃ now, x + z = now := ⟨_, rfl⟩
  have wm0 : IntKind.i64.wrap m0 = m0 := IntWalk.i64_in _ (by omega)
  have wm1 : IntKind.i64.wrap m1 = m1 := IntWalk.i64_in _ (by omega)
  have wnow : IntKind.i64.wrap now = now := IntWalk.i64_in _ (by omega)
  have INV0 := Lib.hid (show HInv 0 x y now by unfold HInv; omega)
  clear hz1 hz2 r1 r2
  go_enter Try.func14, Try.ntmps14
  go_wp2_with fail
  refine (CA.out _).mono ?_
  rintro e y1 ⟨rfl, hb⟩
  have hbx : Below W.heap.size W y1 := below_via (by go_grown) hb (by first | (simp; done) | (simp; omega))
  have R2 := Lib.hid hbx
  have hz_y1 := R2.out.size
  clear hb hbx 
  go_upto_region 4 with fail
  obtain ⟨x3, g_, ex3, eg_⟩ : ∃ x3 g_, x3 = y1.alloc (.cells #[.int .i64 x, .int .i64 y] 67) ∧ g_ = y1.heap.size := ⟨_, _, rfl, rfl⟩
  rw [← ex3, ← eg_]
  have hbx : Below y1.heap.size y1 x3 := by rw [ex3]; exact below_alloc1 _ _ 
  have g_G : W.heap.size ≤ g_ := by rw [eg_]; exact hz_y1
  have BG := Lib.hid (show Blk x3 g_ 67 #[.int .i64 x, .int .i64 y] by rw [ex3, eg_]; exact blk_new1_0 _ _ _ )
  have R4 := Lib.hid (R2.out.trans (hbx.mono hz_y1))
  have hz_x3 := R4.out.size
  clear hbx ex3 eg_ R2 hz_y1
  have kG_0 : x3.cell? ⟨g_, 0, none⟩ = some (.int .i64 x) := BG.out.cell 0
  have kG_1 : x3.cell? ⟨g_, 1, none⟩ = some (.int .i64 y) := BG.out.cell 1
  go_quiet ((go_at_call 21; exact Calls.quiet_of_same ((CT.out _).mono (fun e q h => ⟨h.1, h.2.symm⟩))))
  clear kG_0 kG_1
  obtain ⟨y2, ey⟩ : ∃ y2, y2 = x3.drewN nq := ⟨_, rfl⟩
  rw [← ey]
  have hbx : Below x3.heap.size x3 y2 := by rw [ey]; exact below_draws (Below.refl _ _) nq
  have BG := Lib.hid (BG.out.stays hbx)
  have R5 := Lib.hid (R4.out.trans (hbx.mono hz_x3))
  have hz_y2 := R5.out.size
  clear ey hbx R4 hz_x3
  clear CA CT wm0 wm1 wnow hnow hm1 hm0
  have gG : W.heap.size ≤ g_ := by first | assumption | omega
  go_wp2_with fail
  refine (CP.out _).mono ?_
  rintro e q_ ⟨rfl, rfl⟩
  go_wp2_with fail
  go_loopw [14, 15] (fun s i wr => ∃ (k : Nat) (lo hi t : Int), k ≤ n4 ∧ i = .int .i64 k ∧ s = .int .i64 t ∧ Hid (Blk wr g_ 67 #[.int .i64 lo, .int .i64 hi]) ∧ Hid (HInv k lo hi t) ∧ Below W.heap.size W wr) (fun _ i _ => n4 - (intOf i).toNat)
  case atStart => exact ⟨0, x, y, now, by omega, rfl, rfl, BG, INV0, R5.out⟩
  case round =>
    clear BG R5 INV0 CP
    obtain ⟨k, lo, hi, tt, hk, rfl, rfl, BG, INV, hbr⟩ := hrel
    have Rr := Lib.hid hbr
    have hz_wr := Rr.out.size
    clear hbr
    have HOK := Lib.hid (INV.out.ok (by omega))
    by_cases hk4 : k < n4
    case neg =>
      have s1 : decide ((k : Int) < (n4 : Int)) = false := decide_eq_false (by omega)
      have hI := INV.out
      unfold HInv at hI
      have hT : tickOk tt := by unfold tickOk; omega
      have hW : hi - lo < 4503599627370494 := by omega
      have CW := Lib.hid (fun w => wire_ok tt w hT)
      have CO := Lib.hid (fun w => only_one lo hi tt w HOK.out hI.2.1 hI.2.2.1 (by omega))
      have CV := Lib.hid (fun w => widthI lo hi w HOK.out)
      obtain ⟨Z, hZ⟩ : ∃ Z, eraD tt * 4096 = Z := ⟨_, rfl⟩
      rw [hZ] at CW CO
      obtain ⟨d1, hd1⟩ : ∃ d1, hi - lo = d1 := ⟨_, rfl⟩
      rw [hd1] at CV
      have s2 : decide (d1 ≥ 4503599627370494) = false := decide_eq_false (by omega)
      have s3 : decide (4503599627370494 ≤ d1) = false := decide_eq_false (by omega)
      clear hI hT hW hZ hd1
      go_wp2_with fail
      refine (CW.out _).mono ?_
      rintro e q_ ⟨rfl, rfl⟩
      have kG_0 : wr.cell? ⟨g_, 0, none⟩ = some (.int .i64 lo) := BG.out.cell 0
      have kG_1 : wr.cell? ⟨g_, 1, none⟩ = some (.int .i64 hi) := BG.out.cell 1
      go_wp2_with fail
      refine (CO.out _).mono ?_
      rintro e y51 ⟨rfl, hb⟩
      clear kG_0 kG_1
      have hbx : Below wr.heap.size wr y51 := below_via (by go_grown) hb (by first | (simp; done) | (simp; omega))
      have BG := Lib.hid (BG.out.stays hbx)
      have R52 := Lib.hid (Rr.out.trans (hbx.mono hz_wr))
      have hz_y51 := R52.out.size
      clear hb hbx  Rr hz_wr
      go_upto_region 26 with fail
      obtain ⟨x53, c_, ex53, ec_⟩ : ∃ x53 c_, x53 = y51.alloc (.cells #[.int .i64 tt, .int .i64 tt] 67) ∧ c_ = y51.heap.size := ⟨_, _, rfl, rfl⟩
      rw [← ex53, ← ec_]
      have hbx : Below y51.heap.size y51 x53 := by rw [ex53]; exact below_alloc1 _ _ 
      have o_G_C : g_ < c_ := by rw [ec_]; exact BG.out.lt
      have g_C : W.heap.size ≤ c_ := by rw [ec_]; exact hz_y51
      have BG := Lib.hid (BG.out.stays hbx)
      have BC := Lib.hid (show Blk x53 c_ 67 #[.int .i64 tt, .int .i64 tt] by rw [ex53, ec_]; exact blk_new1_0 _ _ _ )
      have R54 := Lib.hid (R52.out.trans (hbx.mono hz_y51))
      have hz_x53 := R54.out.size
      clear hbx ex53 ec_ R52 hz_y51
      go_wp2_with fail
      refine (roused15_ok _).mono ?_
      rintro e y55 ⟨rfl, hb⟩
      have hbx : Below x53.heap.size x53 y55 := below_via (by go_grown) hb (by first | (simp; done) | (simp; omega))
      have BG := Lib.hid (BG.out.stays hbx)
      have BC := Lib.hid (BC.out.stays hbx)
      have R56 := Lib.hid (R54.out.trans (hbx.mono hz_x53))
      have hz_y55 := R56.out.size
      clear hb hbx  R54 hz_x53
      have kG_0 : y55.cell? ⟨g_, 0, none⟩ = some (.int .i64 lo) := BG.out.cell 0
      have kG_1 : y55.cell? ⟨g_, 1, none⟩ = some (.int .i64 hi) := BG.out.cell 1
      have kC_0 : y55.cell? ⟨c_, 0, none⟩ = some (.int .i64 tt) := BC.out.cell 0
      have kC_1 : y55.cell? ⟨c_, 1, none⟩ = some (.int .i64 tt) := BC.out.cell 1
      go_wp2_with fail
      refine (CV.out _).mono ?_
      rintro e y57 ⟨rfl, hb⟩
      clear kG_0 kG_1 kC_0 kC_1
      have hbx : Below y55.heap.size y55 y57 := below_via (by go_grown) hb (by first | (simp; done) | (simp; omega))
      have BG := Lib.hid (BG.out.stays hbx)
      have BC := Lib.hid (BC.out.stays hbx)
      have R58 := Lib.hid (R56.out.trans (hbx.mono hz_y55))
      have hz_y57 := R58.out.size
      clear hb hbx  R56 hz_y55
      have kG_0 : y57.cell? ⟨g_, 0, none⟩ = some (.int .i64 lo) := BG.out.cell 0
      have kG_1 : y57.cell? ⟨g_, 1, none⟩ = some (.int .i64 hi) := BG.out.cell 1
      have kC_0 : y57.cell? ⟨c_, 0, none⟩ = some (.int .i64 tt) := BC.out.cell 0
      have kC_1 : y57.cell? ⟨c_, 1, none⟩ = some (.int .i64 tt) := BC.out.cell 1
      go_wp2
      go_ret
      exact ⟨rfl, R58.out⟩
    have s1 : (k : Int) < (n4 : Int) := by omega
    obtain ⟨sb, so, rfl, hcell⟩ := nums_at (H4.out.stays Rr.out) hk4
    obtain ⟨v, hv⟩ : ∃ v, hAt l4 k = v := ⟨_, rfl⟩
    rw [hv] at hcell
    clear hv
    obtain ⟨e, he⟩ : ∃ e : Nat, v % 281474976710656 = (e : Int) := ⟨(v % 281474976710656).toNat, by omega⟩
    have he1 : e < 281474976710656 := by omega
    have CE := Lib.hid (fun w => within_any v 281474976710656 (by decide) (by decide) w)
    rw [he] at CE
    clear he
    have CA := Lib.hid (fun w => advance_ok e p w (by omega) hp)
    have hal := adv_le e p
    have hau : ∀ d, d ≤ aHi e p → d < 562949953421312 := fun d h => adv_lt he1 hp h
    obtain ⟨al, hal0⟩ : ∃ al, aLo e p = al := ⟨_, rfl⟩
    obtain ⟨ah, hah0⟩ : ∃ ah, aHi e p = ah := ⟨_, rfl⟩
    rw [hal0] at CA hal
    rw [hah0] at CA hal hau
    clear hal0 hah0
    have hah := hau ah (Nat.le_refl _)
    go_wp2_with fail
    refine (CE.out _).mono ?_
    rintro e q_ ⟨rfl, rfl⟩
    go_wp2_with fail
    refine (CA.out _).mono ?_
    rintro e y5 ⟨rfl, hb⟩
    have hbx : Below wr.heap.size wr y5 := below_via (by go_grown) hb (by first | (simp; done) | (simp; omega))
    have BG := Lib.hid (BG.out.stays hbx)
    have R6 := Lib.hid (Rr.out.trans (hbx.mono hz_wr))
    have hz_y5 := R6.out.size
    clear hb hbx  Rr hz_wr
    go_upto_region 11 with fail
    obtain ⟨x7, x_, ex7, ex_⟩ : ∃ x7 x_, x7 = y5.alloc (.cells #[.int .i64 (al : Int), .int .i64 (ah : Int)] 67) ∧ x_ = y5.heap.size := ⟨_, _, rfl, rfl⟩
    rw [← ex7, ← ex_]
    have hbx : Below y5.heap.size y5 x7 := by rw [ex7]; exact below_alloc1 _ _ 
    have o_G_X : g_ < x_ := by rw [ex_]; exact BG.out.lt
    have g_X : W.heap.size ≤ x_ := by rw [ex_]; exact hz_y5
    have BG := Lib.hid (BG.out.stays hbx)
    have BX := Lib.hid (show Blk x7 x_ 67 #[.int .i64 (al : Int), .int .i64 (ah : Int)] by rw [ex7, ex_]; exact blk_new1_0 _ _ _ )
    have R8 := Lib.hid (R6.out.trans (hbx.mono hz_y5))
    have hz_x7 := R8.out.size
    clear hbx ex7 ex_ R6 hz_y5
    have kX_0 : x7.cell? ⟨x_, 0, none⟩ = some (.int .i64 (al : Int)) := BX.out.cell 0
    have kX_1 : x7.cell? ⟨x_, 1, none⟩ = some (.int .i64 (ah : Int)) := BX.out.cell 1
    have d11 : decide ((al : Int) > (ah : Int)) = false := decide_eq_false (by omega)
    have d12 : decide ((ah : Int) < (al : Int)) = false := decide_eq_false (by omega)
    go_upto_if 81 with fail
    clear kX_0 kX_1
    go_cut [19] (fun s wx => ∃ d : Nat, s = .int .i64 d ∧ d < 562949953421312 ∧ Below x7.heap.size x7 wx)
    case first =>
      by_cases hk5 : k < n5
      case neg =>
        have s2 : decide ((k : Int) < (n5 : Int)) = false := decide_eq_false (by omega)
        go_wp2_with fail
        go_meet
        exact ⟨e, rfl, by omega, Below.refl _ _⟩
      have s2 : (k : Int) < (n5 : Int) := by omega
      obtain ⟨tb, tof, rfl, hcell5⟩ := nums_at (H5.out.stays R8.out) hk5
      obtain ⟨c, hc⟩ : ∃ c, hAt l5 k = c := ⟨_, rfl⟩
      rw [hc] at hcell5
      clear hc
      obtain ⟨M0, hM0⟩ : ∃ M0, (ah : Int) - (al : Int) = M0 := ⟨_, rfl⟩
      obtain ⟨M1, hM1⟩ : ∃ M1, M0 + 1 = M1 := ⟨_, rfl⟩
      have CW := Lib.hid (fun w => within_any c M1 (by omega) (by omega) w)
      have z1 : 0 ≤ c % M1 := Int.emod_nonneg _ (by omega)
      have z2 : c % M1 < M1 := Int.emod_lt_of_pos _ (by omega)
      obtain ⟨z, hz⟩ : ∃ z : Nat, c % M1 = (z : Int) := ⟨(c % M1).toNat, by omega⟩
      rw [hz] at CW z2
      clear hz z1
      obtain ⟨d, hd⟩ : ∃ d : Nat, (al : Int) + (z : Int) = (d : Int) := ⟨al + z, by omega⟩
      have wM0 : IntKind.i64.wrap M0 = M0 := IntWalk.i64_in _ (by omega)
      have wM1 : IntKind.i64.wrap M1 = M1 := IntWalk.i64_in _ (by omega)
      have wd : IntKind.i64.wrap (d : Int) = (d : Int) := IntWalk.i64_in _ (by omega)
      have hd2 : d < 562949953421312 := hau d (by omega)
      clear z2
      go_upto_region 15 with fail
      have kX_0 : x7.cell? ⟨x_, 0, none⟩ = some (.int .i64 (al : Int)) := BX.out.cell 0
      have kX_1 : x7.cell? ⟨x_, 1, none⟩ = some (.int .i64 (ah : Int)) := BX.out.cell 1
      go_quiet ((go_at_call 21; exact Calls.quiet_of_same ((CW.out _).mono (fun e q h => ⟨h.1, h.2.symm⟩))))
      go_wp2_with fail
      go_meet
      exact ⟨d, rfl, hd2, below_draws (Below.refl _ _) nq⟩
    case rest =>
    obtain ⟨d, rfl, hd, hbx⟩ := hcut
    obtain ⟨yc, ey⟩ : ∃ yc, yc = wc := ⟨_, rfl⟩
    rw [← ey] at hbx ⊢
    clear ey
    clear CE CA hal hau
    have BG := Lib.hid (BG.out.stays hbx)
    have BX := Lib.hid (BX.out.stays hbx)
    have RC := Lib.hid (R8.out.trans (hbx.mono hz_x7))
    have hz_yc := RC.out.size
    clear hbx R8 hz_x7
    go_wp2_with fail
    refine (fits_any e d p _ (by omega) (by omega) hp).mono ?_
    rintro e y9 ⟨rfl, hb⟩
    have hbx : Below yc.heap.size yc y9 := below_via (by go_grown) hb (by first | (simp; done) | (simp; omega))
    have BG := Lib.hid (BG.out.stays hbx)
    have BX := Lib.hid (BX.out.stays hbx)
    have R10 := Lib.hid (RC.out.trans (hbx.mono hz_yc))
    have hz_y9 := R10.out.size
    clear hb hbx  RC hz_yc
    go_upto_if 100 with fail
    go_cut [19] (fun s wx => ∃ d : Nat, s = .int .i64 d ∧ d < 562949953421312 ∧ Hid (fitsB e d p = true) ∧ wx = y9)
    case first =>
      cases hf : fitsB e d p with
      | true =>
        go_wp2_with fail
        go_meet
        exact ⟨d, rfl, hd, hf, rfl⟩
      | false =>
        go_wp2_with fail
        go_meet
        exact ⟨e, rfl, by omega, fits_self e p, rfl⟩
    case rest =>
    clear hd
    obtain ⟨d2, rfl, hd, HF, hwx⟩ := hcut
    rw [hwx]
    clear hwx d
    have INV2 := Lib.hid (INV.out.next hd hp HF.out)
    have HOK2 := Lib.hid (INV2.out.ok (by omega))
    have CPr := Lib.hid (fun w => project15 lo hi d2 p w hd hp HOK.out HOK2.out)
    have hle := el_le d2 p hp
    have hin2 := INV2.out
    obtain ⟨u, hu⟩ : ∃ u, eLo d2 p = u := ⟨_, rfl⟩
    obtain ⟨v2, hv2⟩ : ∃ v2, eHi d2 p = v2 := ⟨_, rfl⟩
    rw [hu, hv2] at INV2 HOK2 CPr hle
    clear hu hv2 HF hin2
    obtain ⟨lo2, hlo2⟩ : ∃ lo2, lo + (u : Int) = lo2 := ⟨_, rfl⟩
    obtain ⟨hi2, hhi2⟩ : ∃ hi2, hi + (v2 : Int) = hi2 := ⟨_, rfl⟩
    obtain ⟨t2, ht2⟩ : ∃ t2, tt + (e : Int) = t2 := ⟨_, rfl⟩
    rw [hlo2, hhi2] at INV2 HOK2 CPr
    rw [ht2] at INV2
    have kG_0 : y9.cell? ⟨g_, 0, none⟩ = some (.int .i64 lo) := BG.out.cell 0
    have kG_1 : y9.cell? ⟨g_, 1, none⟩ = some (.int .i64 hi) := BG.out.cell 1
    go_wp2_with fail
    refine (CPr.out _).mono ?_
    rintro e y11 ⟨rfl, hb⟩
    clear kG_0 kG_1
    have hbx : Below y9.heap.size y9 y11 := below_via (by go_grown) hb (by first | (simp; done) | (simp; omega))
    have BG := Lib.hid (BG.out.stays hbx)
    have BX := Lib.hid (BX.out.stays hbx)
    have R12 := Lib.hid (R10.out.trans (hbx.mono hz_y9))
    have hz_y11 := R12.out.size
    clear hb hbx  R10 hz_y9
    go_upto_region 19 with fail
    obtain ⟨x13, n_, ex13, en_⟩ : ∃ x13 n_, x13 = y11.alloc (.cells #[.int .i64 lo2, .int .i64 hi2] 67) ∧ n_ = y11.heap.size := ⟨_, _, rfl, rfl⟩
    rw [← ex13, ← en_]
    have hbx : Below y11.heap.size y11 x13 := by rw [ex13]; exact below_alloc1 _ _ 
    have o_G_N : g_ < n_ := by rw [en_]; exact BG.out.lt
    have o_X_N : x_ < n_ := by rw [en_]; exact BX.out.lt
    have g_N : W.heap.size ≤ n_ := by rw [en_]; exact hz_y11
    have BG := Lib.hid (BG.out.stays hbx)
    have BX := Lib.hid (BX.out.stays hbx)
    have BN := Lib.hid (show Blk x13 n_ 67 #[.int .i64 lo2, .int .i64 hi2] by rw [ex13, en_]; exact blk_new1_0 _ _ _ )
    have R14 := Lib.hid (R12.out.trans (hbx.mono hz_y11))
    have hz_x13 := R14.out.size
    clear hbx ex13 en_ R12 hz_y11
    have HI1 := Lib.hid INV.out
    have CW1 := Lib.hid (fun w => widthI lo hi w HOK.out)
    have CW2 := Lib.hid (fun w => widthI lo2 hi2 w HOK2.out)
    obtain ⟨d1, hd1⟩ : ∃ d1, hi - lo = d1 := ⟨_, rfl⟩
    obtain ⟨dd2, hdd2⟩ : ∃ dd2, hi2 - lo2 = dd2 := ⟨_, rfl⟩
    rw [hd1] at CW1
    rw [hdd2] at CW2
    have dq1 : decide (dd2 < d1) = false := decide_eq_false (by omega)
    have dq2 : decide (lo2 < lo) = false := decide_eq_false (by omega)
    clear hd1 hdd2 hlo2 hhi2 hle
    go_cut [124] (fun s wx => s = .bool false ∧ Below x13.heap.size x13 wx)
    case first =>
      have kN_0 : x13.cell? ⟨n_, 0, none⟩ = some (.int .i64 lo2) := BN.out.cell 0
      have kN_1 : x13.cell? ⟨n_, 1, none⟩ = some (.int .i64 hi2) := BN.out.cell 1
      have kG_0 : x13.cell? ⟨g_, 0, none⟩ = some (.int .i64 lo) := BG.out.cell 0
      have kG_1 : x13.cell? ⟨g_, 1, none⟩ = some (.int .i64 hi) := BG.out.cell 1
      go_region_held3 (fun w' => w'.cell? ⟨n_, 0, none⟩ = some (.int .i64 lo2) ∧ w'.cell? ⟨n_, 1, none⟩ = some (.int .i64 hi2) ∧ w'.cell? ⟨g_, 0, none⟩ = some (.int .i64 lo) ∧ w'.cell? ⟨g_, 1, none⟩ = some (.int .i64 hi)) (go_keep) (first | (go_at_call 59; (with_reducible refine (CW1.out _).mono ?_); rintro e w1 ⟨rfl, hb1⟩; have hbx1 : Below x13.heap.size x13 w1 := below_via (by first | assumption | go_grown) hb1 (by first | assumption | (simp; done) | (simp; omega)); have hy1 := hbx1.size; have z1N0 : w1.cell? ⟨n_, 0, none⟩ = some (.int .i64 lo2) := (BN.out.stays hbx1).cell 0; have z1N1 : w1.cell? ⟨n_, 1, none⟩ = some (.int .i64 hi2) := (BN.out.stays hbx1).cell 1; have z1G0 : w1.cell? ⟨g_, 0, none⟩ = some (.int .i64 lo) := (BG.out.stays hbx1).cell 0; have z1G1 : w1.cell? ⟨g_, 1, none⟩ = some (.int .i64 hi) := (BG.out.stays hbx1).cell 1) | (go_at_call 59; (with_reducible refine (CW2.out _).mono ?_); rintro e w2 ⟨rfl, hb2⟩; have hbx2 : Below x13.heap.size x13 w2 := below_via (by first | assumption | go_grown) hb2 (by first | assumption | (simp; done) | (simp; omega)); have hy2 := hbx2.size; have z2N0 : w2.cell? ⟨n_, 0, none⟩ = some (.int .i64 lo2) := (BN.out.stays hbx2).cell 0; have z2N1 : w2.cell? ⟨n_, 1, none⟩ = some (.int .i64 hi2) := (BN.out.stays hbx2).cell 1; have z2G0 : w2.cell? ⟨g_, 0, none⟩ = some (.int .i64 lo) := (BG.out.stays hbx2).cell 0; have z2G1 : w2.cell? ⟨g_, 1, none⟩ = some (.int .i64 hi) := (BG.out.stays hbx2).cell 1))
      all_goals (go_wp2_with fail; go_meet; exact ⟨rfl, by assumption⟩)
    case rest =>
    obtain ⟨rfl, hbx⟩ := hcut
    obtain ⟨yd, ey⟩ : ∃ yd, yd = wc := ⟨_, rfl⟩
    rw [← ey] at hbx ⊢
    clear ey CW1 CW2 dq1 dq2
    have BG := Lib.hid (BG.out.stays hbx)
    have BX := Lib.hid (BX.out.stays hbx)
    have BN := Lib.hid (BN.out.stays hbx)
    have RD := Lib.hid (R14.out.trans (hbx.mono hz_x13))
    have hz_yd := RD.out.size
    clear hbx R14 hz_x13
    have hI2 := INV2.out
    unfold HInv at hI2
    have ht3 : -1152921504606846976 ≤ t2 := by omega
    have ht4 : t2 ≤ 1152921504606846976 := by omega
    have ht5 : lo2 ≤ t2 := hI2.2.1
    have ht6 : t2 ≤ hi2 := hI2.2.2.1
    clear hI2 HI1
    have kN_0 : yd.cell? ⟨n_, 0, none⟩ = some (.int .i64 lo2) := BN.out.cell 0
    have kN_1 : yd.cell? ⟨n_, 1, none⟩ = some (.int .i64 hi2) := BN.out.cell 1
    have cG := BG.out.cell
    have zG := BG.out.frozen
    go_upto_region 22 with fail
    clear cG zG
    clear kN_0 kN_1
    obtain ⟨x15, ex15⟩ : ∃ x15, x15 = (yd.setCell ⟨g_, 0, none⟩ (.int .i64 lo2)).setCell ⟨g_, 1, none⟩ (.int .i64 hi2) := ⟨_, rfl⟩
    rw [← ex15]
    have BG := Lib.hid (show Blk x15 g_ 67 #[.int .i64 lo2, .int .i64 hi2] from by rw [ex15]; exact ((BG.out.put 0 _).put 1 _))
    have BX := Lib.hid (show Blk x15 x_ 67 #[.int .i64 (al : Int), .int .i64 (ah : Int)] from by rw [ex15]; exact ((BX.out.far (p := ⟨g_, 0, none⟩) (by simp only []; omega) _).far (p := ⟨g_, 1, none⟩) (by simp only []; omega) _))
    have BN := Lib.hid (show Blk x15 n_ 67 #[.int .i64 lo2, .int .i64 hi2] from by rw [ex15]; exact ((BN.out.far (p := ⟨g_, 0, none⟩) (by simp only []; omega) _).far (p := ⟨g_, 1, none⟩) (by simp only []; omega) _))
    have R16 := Lib.hid (show Below W.heap.size W x15 from by rw [ex15]; exact ((RD.out.setCell (p := ⟨g_, 0, none⟩) (by simp only []; omega) _).setCell (p := ⟨g_, 1, none⟩) (by simp only []; omega) _))
    have hz_x15 := R16.out.size
    clear RD hz_yd
    clear ex15
    have kG_0 : x15.cell? ⟨g_, 0, none⟩ = some (.int .i64 lo2) := BG.out.cell 0
    have kG_1 : x15.cell? ⟨g_, 1, none⟩ = some (.int .i64 hi2) := BG.out.cell 1
    go_wp2_with fail
    refine (holdsR lo2 hi2 t2 _ HOK2.out ht5 ht6).mono ?_
    rintro e y17 ⟨rfl, hb⟩
    clear kG_0 kG_1
    have hbx : Below x15.heap.size x15 y17 := below_via (by go_grown) hb (by first | (simp; done) | (simp; omega))
    have BG := Lib.hid (BG.out.stays hbx)
    have BX := Lib.hid (BX.out.stays hbx)
    have BN := Lib.hid (BN.out.stays hbx)
    have R18 := Lib.hid (R16.out.trans (hbx.mono hz_x15))
    have hz_y17 := R18.out.size
    clear hb hbx  R16 hz_x15
    obtain ⟨k1, hk1⟩ : ∃ k1, k + 1 = k1 := ⟨_, rfl⟩
    rw [hk1] at INV2
    have hk2 : (k : Int) + 1 = (k1 : Int) := by omega
    go_wp2
    go_roundw
    case rel => exact ⟨k1, lo2, hi2, t2, by omega, by first | rfl | (rw [hk2]), rfl, BG, INV2, R18.out⟩
    case measure => simp [intOf]; omega
end Go.Proofs.Ytofadjcphaehcaa
