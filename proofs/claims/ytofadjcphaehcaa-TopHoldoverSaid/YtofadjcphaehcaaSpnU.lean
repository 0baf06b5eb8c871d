/- Sums of spans, what is known in the beginning, Wake: of both. -/
import Derived.Test.YtofadjcphaehcaaSpn
namespace Go.Proofs.Ytofadjcphaehcaa
open Go.RowKit

set_option maxRecDepth 100000 in
set_option maxHeartbeats 4000000 in
theorem negV (lo hi : Int) (w : World) (h : spanOk lo hi) : Calls Try.prog 112 #[.agg #[.int .i64 lo, .int .i64 hi]] w fun e w' => e = .returned (.bool false) ∧ Below w.heap.size w w' := by
  have dd : decide (spanOk lo hi) = true := decide_eq_true h
  clear h
  go_enter Try.func112, Try.ntmps112
  go_upto_region 1 with fail
  obtain ⟨x1, s_, ex1, es_⟩ : ∃ x1 s_, x1 = w.alloc (.cells #[.int .i64 lo, .int .i64 hi] 67) ∧ s_ = w.heap.size := ⟨_, _, rfl, rfl⟩
  rw [← ex1, ← es_]
  have hbx : Below w.heap.size w x1 := by rw [ex1]; exact below_alloc1 _ _ 
  have g_S : w.heap.size ≤ s_ := by rw [es_]; exact Nat.le_refl _
  have BS := Lib.hid (show Blk x1 s_ 67 #[.int .i64 lo, .int .i64 hi] by rw [ex1, es_]; exact blk_new1_0 _ _ _ )
  have R2 := Lib.hid hbx
  have hz_x1 := R2.out.size
  clear hbx ex1 es_
  have kS_0 : x1.cell? ⟨s_, 0, none⟩ = some (.int .i64 lo) := BS.out.cell 0
  have kS_1 : x1.cell? ⟨s_, 1, none⟩ = some (.int .i64 hi) := BS.out.cell 1
  go_wp2_with fail
  refine (intervalV lo hi _).mono ?_
  rintro e y3 ⟨rfl, hb⟩
  clear kS_0 kS_1
  have hbx : Below x1.heap.size x1 y3 := below_via (by go_grown) hb (by first | (simp; done) | (simp; omega))
  have BS := Lib.hid (BS.out.stays hbx)
  have R4 := Lib.hid (R2.out.trans (hbx.mono hz_x1))
  have hz_y3 := R4.out.size
  clear hb hbx  R2 hz_x1
  rw [dd]
  go_wp2
  go_ret
  exact ⟨rfl, R4.out⟩
set_option maxRecDepth 100000 in
set_option maxHeartbeats 4000000 in
theorem idx2 (a b c d : Int) (g : Nat) (w : World) (hb : Blk w g 67 #[.int .i64 a, .int .i64 b, .int .i64 c, .int .i64 d]) (h1 : spanOk a b) (h2 : spanOk c d) : Calls Try.prog 114 #[.slice (some ⟨g, 0, none⟩) 2 2, .func (.func 112) #[] #[]] w fun e w' => e = .returned (.int .i64 (-1)) ∧ Below w.heap.size w w' := by
  have HB := Lib.hid hb
  have H1 := Lib.hid h1
  have H2 := Lib.hid h2
  clear hb h1 h2
  go_enter Try.func114, Try.ntmps114
  go_wp2_with fail
  go_loopw [5, 8] (fun _ i wr => ∃ k : Nat, k ≤ 2 ∧ i = .int .i64 k ∧ Below w.heap.size w wr) (fun _ i _ => 2 - (intOf i).toNat)
  case atStart => exact ⟨0, by omega, rfl, Below.refl _ _⟩
  case round =>
    obtain ⟨k, hk, rfl, hbr⟩ := hrel
    have hsr := hbr.size
    have BB := HB.out.stays hbr
    have k0 : wr.cell? ⟨g, 0, none⟩ = some (.int .i64 a) := BB.cell 0
    have k1 : wr.cell? ⟨g, 1, none⟩ = some (.int .i64 b) := BB.cell 1
    have k2 : wr.cell? ⟨g, 2, none⟩ = some (.int .i64 c) := BB.cell 2
    have k3 : wr.cell? ⟨g, 3, none⟩ = some (.int .i64 d) := BB.cell 3
    clear BB
    rcases (by omega : k = 0 ∨ k = 1 ∨ k = 2) with rfl | rfl | rfl
    · go_wp2_with fail
      refine (negV a b _ H1.out).mono ?_
      rintro e w1 ⟨rfl, hb⟩
      have hB := hbr.trans (hb.mono hsr)
      clear hb
      go_wp2
      go_roundw
      case rel => exact ⟨1, by omega, by go_num, hB⟩
      case measure => simp [intOf]
    · go_wp2_with fail
      refine (negV c d _ H2.out).mono ?_
      rintro e w1 ⟨rfl, hb⟩
      have hB := hbr.trans (hb.mono hsr)
      clear hb
      go_wp2
      go_roundw
      case rel => exact ⟨2, by omega, by go_num, hB⟩
      case measure => simp [intOf]
    · go_wp2
      go_ret
      exact ⟨rfl, hbr⟩
set_option maxRecDepth 100000 in
set_option maxHeartbeats 4000000 in
theorem cont2 (a b c d : Int) (g : Nat) (w : World) (hb : Blk w g 67 #[.int .i64 a, .int .i64 b, .int .i64 c, .int .i64 d]) (h1 : spanOk a b) (h2 : spanOk c d) : Calls Try.prog 111 #[.slice (some ⟨g, 0, none⟩) 2 2, .func (.func 112) #[] #[]] w fun e w' => e = .returned (.bool false) ∧ Below w.heap.size w w' := by
  have HB := Lib.hid hb
  have H1 := Lib.hid h1
  have H2 := Lib.hid h2
  clear hb h1 h2
  go_enter Try.func111, Try.ntmps111
  go_wp2_with fail
  refine (idx2 a b c d g _ HB.out H1.out H2.out).mono ?_
  rintro e y1 ⟨rfl, hb⟩
  have hbx : Below w.heap.size w y1 := below_via (by go_grown) hb (by first | (simp; done) | (simp; omega))
  have R2 := Lib.hid hbx
  have hz_y1 := R2.out.size
  clear hb hbx 
  go_wp2
  go_ret
  exact ⟨rfl, R2.out⟩
set_option maxRecDepth 100000 in
set_option maxHeartbeats 4000000 in
theorem add1 (a b c d : Int) (s_ u_ : Nat) (w : World) (hs : Blk w s_ 67 #[.int .i64 a, .int .i64 b]) (hu : Blk w u_ 67 #[.int .i64 c, .int .i64 d]) (h1 : spanOk a b) (h2 : spanOk c d) : Calls Try.prog 102 #[.pointer (some ⟨s_, 0, none⟩), .pointer (some ⟨u_, 0, none⟩)] w fun e w' => e = .returned (.agg #[.int .i64 (a + c), .int .i64 (b + d)]) ∧ Below w.heap.size w w' := by
  obtain ⟨x, hx⟩ : ∃ x, a + c = x := ⟨_, rfl⟩
  obtain ⟨y, hy⟩ : ∃ y, b + d = y := ⟨_, rfl⟩
  have wx : IntKind.i64.wrap x = x := IntWalk.i64_in _ (by unfold spanOk tickOk at h1 h2; omega)
  have wy : IntKind.i64.wrap y = y := IntWalk.i64_in _ (by unfold spanOk tickOk at h1 h2; omega)
  have a0 : -1152921504606846976 ≤ a ∧ a ≤ 1152921504606846976 := h1.1
  have b0 : -1152921504606846976 ≤ b ∧ b ≤ 1152921504606846976 := h1.2.1
  have c0 : -1152921504606846976 ≤ c ∧ c ≤ 1152921504606846976 := h2.1
  have d0 : -1152921504606846976 ≤ d ∧ d ≤ 1152921504606846976 := h2.2.1
  obtain ⟨a1, a2⟩ := a0
  obtain ⟨b1, b2⟩ := b0
  obtain ⟨c1, c2⟩ := c0
  obtain ⟨d1, d2⟩ := d0
  clear h1 h2
  rw [hx, hy]
  have HS := Lib.hid hs
  have HU := Lib.hid hu
  have ls := hs.lt
  have lu := hu.lt
  clear hs hu
  go_enter Try.func102, Try.ntmps102
  go_upto_region 1 with fail
  obtain ⟨x1, h_, ex1, eh_⟩ : ∃ x1 h_, x1 = w.alloc (.cells #[.int .i64 0, .int .i64 0] 67) ∧ h_ = w.heap.size := ⟨_, _, rfl, rfl⟩
  rw [← ex1, ← eh_]
  have hbx : Below w.heap.size w x1 := by rw [ex1]; exact below_alloc1 _ _ 
  have g_H : w.heap.size ≤ h_ := by rw [eh_]; exact Nat.le_refl _
  have BH := Lib.hid (show Blk x1 h_ 67 #[.int .i64 0, .int .i64 0] by rw [ex1, eh_]; exact blk_new1_0 _ _ _ )
  have R2 := Lib.hid hbx
  have hz_x1 := R2.out.size
  clear hbx ex1 eh_
  have BS := HS.out.stays R2.out
  have BU := HU.out.stays R2.out
  have n1 : ¬ s_ = h_ := by omega
  have n2 : ¬ u_ = h_ := by omega
  have n3 : ¬ h_ = s_ := by omega
  have n4 : ¬ h_ = u_ := by omega
  have kBS0 : x1.cell? ⟨s_, 0, none⟩ = some (.int .i64 a) := BS.cell 0
  have kBS1 : x1.cell? ⟨s_, 1, none⟩ = some (.int .i64 b) := BS.cell 1
  have kBU0 : x1.cell? ⟨u_, 0, none⟩ = some (.int .i64 c) := BU.cell 0
  have kBU1 : x1.cell? ⟨u_, 1, none⟩ = some (.int .i64 d) := BU.cell 1
  have cH := BH.out.cell
  have zH := BH.out.frozen
  clear BS BU
  go_wp2
  clear zH cH
  generalize hwd : World.setCell _ ⟨h_, 1, none⟩ _ = wd
  have hwd2 : stores x1 h_ [.int .i64 x, .int .i64 y] 0 = wd := hwd
  have D1 : Blk wd h_ 67 #[.int .i64 x, .int .i64 y] := by rw [← hwd2]; exact BH.out.filled _ rfl
  have RD : Below w.heap.size w wd := by rw [← hwd2]; exact Below.stores (by omega) _ _ _ R2.out
  clear hwd hwd2
  have d1_0 : wd.cell? ⟨h_, 0, none⟩ = some (.int .i64 x) := D1.cell 0
  have d1_1 : wd.cell? ⟨h_, 1, none⟩ = some (.int .i64 y) := D1.cell 1
  try go_wp2_with fail
  refine bodyPost_ret (v := .agg #[.int .i64 x, .int .i64 y]) (by simp [results, Try.results102, go_sem, *]) rfl ⟨rfl, RD⟩
set_option maxRecDepth 100000 in
set_option maxHeartbeats 4000000 in
theorem result_ok (a b c d : Int) (s_ u_ g : Nat) (w : World) (hs : Blk w s_ 67 #[.int .i64 a, .int .i64 b]) (hu : Blk w u_ 67 #[.int .i64 c, .int .i64 d]) (hg : Blk w g 67 #[.int .i64 a, .int .i64 b, .int .i64 c, .int .i64 d]) (h1 : spanOk a b) (h2 : spanOk c d) (h3 : spanOk (a + c) (b + d)) : Calls Try.prog 101 #[.func (.func 102) #[] #[.pointer (some ⟨s_, 0, none⟩), .pointer (some ⟨u_, 0, none⟩)], .slice (some ⟨g, 0, none⟩) 2 2] w fun e w' => e = .returned (.tuple #[.agg #[.int .i64 (a + c), .int .i64 (b + d)], .int .i64 0]) ∧ Below w.heap.size w w' := by
  have dd : decide (spanOk (a + c) (b + d)) = true := decide_eq_true h3
  clear h3
  have HS := Lib.hid hs
  have HU := Lib.hid hu
  have HG := Lib.hid hg
  have H1 := Lib.hid h1
  have H2 := Lib.hid h2
  clear hs hu hg h1 h2
  obtain ⟨x, hx⟩ : ∃ x, a + c = x := ⟨_, rfl⟩
  obtain ⟨y, hy⟩ : ∃ y, b + d = y := ⟨_, rfl⟩
  rw [hx, hy] at dd ⊢
  have HX := Lib.hid hx
  have HY := Lib.hid hy
  clear hx hy
  go_enter Try.func101, Try.ntmps101
  go_upto_region 1 with fail
  obtain ⟨x1, h_, ex1, eh_⟩ : ∃ x1 h_, x1 = w.alloc (.cells #[.int .i64 0, .int .i64 0] 67) ∧ h_ = w.heap.size := ⟨_, _, rfl, rfl⟩
  rw [← ex1, ← eh_]
  have hbx : Below w.heap.size w x1 := by rw [ex1]; exact below_alloc1 _ _ 
  have g_H : w.heap.size ≤ h_ := by rw [eh_]; exact Nat.le_refl _
  have BH := Lib.hid (show Blk x1 h_ 67 #[.int .i64 0, .int .i64 0] by rw [ex1, eh_]; exact blk_new1_0 _ _ _ )
  have R2 := Lib.hid hbx
  have hz_x1 := R2.out.size
  clear hbx ex1 eh_
  have HS := Lib.hid (HS.out.stays R2.out)
  have HU := Lib.hid (HU.out.stays R2.out)
  have HG := Lib.hid (HG.out.stays R2.out)
  go_wp2_with fail
  refine (cont2 a b c d g _ HG.out H1.out H2.out).mono ?_
  rintro e y3 ⟨rfl, hb⟩
  have hbx : Below x1.heap.size x1 y3 := below_via (by go_grown) hb (by first | (simp; done) | (simp; omega))
  have BH := Lib.hid (BH.out.stays hbx)
  have HS := Lib.hid (HS.out.stays hbx)
  have HU := Lib.hid (HU.out.stays hbx)
  have HG := Lib.hid (HG.out.stays hbx)
  have R4 := Lib.hid (R2.out.trans (hbx.mono hz_x1))
  have hz_y3 := R4.out.size
  clear hb hbx  R2 hz_x1
  go_wp2_with fail
  refine (add1 a b c d s_ u_ _ HS.out HU.out H1.out H2.out).mono ?_
  rintro e y5 ⟨rfl, hb⟩
  have hbx : Below y3.heap.size y3 y5 := below_via (by go_grown) hb (by first | (simp; done) | (simp; omega))
  have BH := Lib.hid (BH.out.stays hbx)
  have HS := Lib.hid (HS.out.stays hbx)
  have HU := Lib.hid (HU.out.stays hbx)
  have HG := Lib.hid (HG.out.stays hbx)
  have R6 := Lib.hid (R4.out.trans (hbx.mono hz_y3))
  have hz_y5 := R6.out.size
  clear hb hbx  R4 hz_y3
  rw [HX.out, HY.out]
  go_upto_region 4 with fail
  obtain ⟨x7, o_, ex7, eo_⟩ : ∃ x7 o_, x7 = y5.alloc (.cells #[.int .i64 x, .int .i64 y] 67) ∧ o_ = y5.heap.size := ⟨_, _, rfl, rfl⟩
  rw [← ex7, ← eo_]
  have hbx : Below y5.heap.size y5 x7 := by rw [ex7]; exact below_alloc1 _ _ 
  have o_H_O : h_ < o_ := by rw [eo_]; exact BH.out.lt
  have g_O : w.heap.size ≤ o_ := by rw [eo_]; exact hz_y5
  have BH := Lib.hid (BH.out.stays hbx)
  have HS := Lib.hid (HS.out.stays hbx)
  have HU := Lib.hid (HU.out.stays hbx)
  have HG := Lib.hid (HG.out.stays hbx)
  have BO := Lib.hid (show Blk x7 o_ 67 #[.int .i64 x, .int .i64 y] by rw [ex7, eo_]; exact blk_new1_0 _ _ _ )
  have R8 := Lib.hid (R6.out.trans (hbx.mono hz_y5))
  have hz_x7 := R8.out.size
  clear hbx ex7 eo_ R6 hz_y5
  have kO_0 : x7.cell? ⟨o_, 0, none⟩ = some (.int .i64 x) := BO.out.cell 0
  have kO_1 : x7.cell? ⟨o_, 1, none⟩ = some (.int .i64 y) := BO.out.cell 1
  go_wp2_with fail
  refine (intervalV x y _).mono ?_
  rintro e y9 ⟨rfl, hb⟩
  clear kO_0 kO_1
  have hbx : Below x7.heap.size x7 y9 := below_via (by go_grown) hb (by first | (simp; done) | (simp; omega))
  have BH := Lib.hid (BH.out.stays hbx)
  have BO := Lib.hid (BO.out.stays hbx)
  have HS := Lib.hid (HS.out.stays hbx)
  have HU := Lib.hid (HU.out.stays hbx)
  have HG := Lib.hid (HG.out.stays hbx)
  have R10 := Lib.hid (R8.out.trans (hbx.mono hz_x7))
  have hz_y9 := R10.out.size
  clear hb hbx  R8 hz_x7
  rw [dd]
  have kO_0 : y9.cell? ⟨o_, 0, none⟩ = some (.int .i64 x) := BO.out.cell 0
  have kO_1 : y9.cell? ⟨o_, 1, none⟩ = some (.int .i64 y) := BO.out.cell 1
  have cH := BH.out.cell
  have zH := BH.out.frozen
  have n1 : ¬ o_ = h_ := by omega
  have n2 : ¬ h_ = o_ := by omega
  go_wp2
  clear zH cH
  clear kO_0 kO_1
  generalize hwd : World.setCell _ ⟨h_, 1, none⟩ _ = wd
  have hwd2 : stores y9 h_ [.int .i64 x, .int .i64 y] 0 = wd := hwd
  have D1 : Blk wd h_ 67 #[.int .i64 x, .int .i64 y] := by rw [← hwd2]; exact BH.out.filled _ rfl
  have RD : Below w.heap.size w wd := by rw [← hwd2]; exact Below.stores (by omega) _ _ _ R10.out
  clear hwd hwd2
  have d1_0 : wd.cell? ⟨h_, 0, none⟩ = some (.int .i64 x) := D1.cell 0
  have d1_1 : wd.cell? ⟨h_, 1, none⟩ = some (.int .i64 y) := D1.cell 1
  try go_wp2_with fail
  refine bodyPost_ret (v := .tuple #[.agg #[.int .i64 x, .int .i64 y], .int .i64 0]) (by simp [results, Try.results101, go_sem, *]) rfl ⟨rfl, RD⟩
set_option maxRecDepth 100000 in
set_option maxHeartbeats 4000000 in
theorem result_bad (a b c d : Int) (s_ u_ g : Nat) (w : World) (hs : Blk w s_ 67 #[.int .i64 a, .int .i64 b]) (hu : Blk w u_ 67 #[.int .i64 c, .int .i64 d]) (hg : Blk w g 67 #[.int .i64 a, .int .i64 b, .int .i64 c, .int .i64 d]) (h1 : spanOk a b) (h2 : spanOk c d) (h3 : ¬ spanOk (a + c) (b + d)) : Calls Try.prog 101 #[.func (.func 102) #[] #[.pointer (some ⟨s_, 0, none⟩), .pointer (some ⟨u_, 0, none⟩)], .slice (some ⟨g, 0, none⟩) 2 2] w fun e w' => e = .returned (.tuple #[.agg #[.int .i64 0, .int .i64 0], .int .i64 4]) ∧ Below w.heap.size w w' := by
  have dd : decide (spanOk (a + c) (b + d)) = false := decide_eq_false h3
  clear h3
  have HS := Lib.hid hs
  have HU := Lib.hid hu
  have HG := Lib.hid hg
  have H1 := Lib.hid h1
  have H2 := Lib.hid h2
  clear hs hu hg h1 h2
  obtain ⟨x, hx⟩ : ∃ x, a + c = x := ⟨_, rfl⟩
  obtain ⟨y, hy⟩ : ∃ y, b + d = y := ⟨_, rfl⟩
  rw [hx, hy] at dd
  have HX := Lib.hid hx
  have HY := Lib.hid hy
  clear hx hy
  go_enter Try.func101, Try.ntmps101
  go_upto_region 1 with fail
  obtain ⟨x1, h_, ex1, eh_⟩ : ∃ x1 h_, x1 = w.alloc (.cells #[.int .i64 0, .int .i64 0] 67) ∧ h_ = w.heap.size := ⟨_, _, rfl, rfl⟩
  rw [← ex1, ← eh_]
  have hbx : Below w.heap.size w x1 := by rw [ex1]; exact below_alloc1 _ _ 
  have g_H : w.heap.size ≤ h_ := by rw [eh_]; exact Nat.le_refl _
  have BH := Lib.hid (show Blk x1 h_ 67 #[.int .i64 0, .int .i64 0] by rw [ex1, eh_]; exact blk_new1_0 _ _ _ )
  have R2 := Lib.hid hbx
  have hz_x1 := R2.out.size
  clear hbx ex1 eh_
  have HS := Lib.hid (HS.out.stays R2.out)
  have HU := Lib.hid (HU.out.stays R2.out)
  have HG := Lib.hid (HG.out.stays R2.out)
  go_wp2_with fail
  refine (cont2 a b c d g _ HG.out H1.out H2.out).mono ?_
  rintro e y3 ⟨rfl, hb⟩
  have hbx : Below x1.heap.size x1 y3 := below_via (by go_grown) hb (by first | (simp; done) | (simp; omega))
  have BH := Lib.hid (BH.out.stays hbx)
  have HS := Lib.hid (HS.out.stays hbx)
  have HU := Lib.hid (HU.out.stays hbx)
  have HG := Lib.hid (HG.out.stays hbx)
  have R4 := Lib.hid (R2.out.trans (hbx.mono hz_x1))
  have hz_y3 := R4.out.size
  clear hb hbx  R2 hz_x1
  go_wp2_with fail
  refine (add1 a b c d s_ u_ _ HS.out HU.out H1.out H2.out).mono ?_
  rintro e y5 ⟨rfl, hb⟩
  have hbx : Below y3.heap.size y3 y5 := below_via (by go_grown) hb (by first | (simp; done) | (simp; omega))
  have BH := Lib.hid (BH.out.stays hbx)
  have HS := Lib.hid (HS.out.stays hbx)
  have HU := Lib.hid (HU.out.stays hbx)
  have HG := Lib.hid (HG.out.stays hbx)
  have R6 := Lib.hid (R4.out.trans (hbx.mono hz_y3))
  have hz_y5 := R6.out.size
  clear hb hbx  R4 hz_y3
  rw [HX.out, HY.out]
  go_upto_region 4 with fail
  obtain ⟨x7, o_, ex7, eo_⟩ : ∃ x7 o_, x7 = y5.alloc (.cells #[.int .i64 x, .int .i64 y] 67) ∧ o_ = y5.heap.size := ⟨_, _, rfl, rfl⟩
  rw [← ex7, ← eo_]
  have hbx : Below y5.heap.size y5 x7 := by rw [ex7]; exact below_alloc1 _ _ 
  have o_H_O : h_ < o_ := by rw [eo_]; exact BH.out.lt
  have g_O : w.heap.size ≤ o_ := by rw [eo_]; exact hz_y5
  have BH := Lib.hid (BH.out.stays hbx)
  have HS := Lib.hid (HS.out.stays hbx)
  have HU := Lib.hid (HU.out.stays hbx)
  have HG := Lib.hid (HG.out.stays hbx)
  have BO := Lib.hid (show Blk x7 o_ 67 #[.int .i64 x, .int .i64 y] by rw [ex7, eo_]; exact blk_new1_0 _ _ _ )
  have R8 := Lib.hid (R6.out.trans (hbx.mono hz_y5))
  have hz_x7 := R8.out.size
  clear hbx ex7 eo_ R6 hz_y5
  have kO_0 : x7.cell? ⟨o_, 0, none⟩ = some (.int .i64 x) := BO.out.cell 0
  have kO_1 : x7.cell? ⟨o_, 1, none⟩ = some (.int .i64 y) := BO.out.cell 1
  go_wp2_with fail
  refine (intervalV x y _).mono ?_
  rintro e y9 ⟨rfl, hb⟩
  clear kO_0 kO_1
  have hbx : Below x7.heap.size x7 y9 := below_via (by go_grown) hb (by first | (simp; done) | (simp; omega))
  have BH := Lib.hid (BH.out.stays hbx)
  have BO := Lib.hid (BO.out.stays hbx)
  have HS := Lib.hid (HS.out.stays hbx)
  have HU := Lib.hid (HU.out.stays hbx)
  have HG := Lib.hid (HG.out.stays hbx)
  have R10 := Lib.hid (R8.out.trans (hbx.mono hz_x7))
  have hz_y9 := R10.out.size
  clear hb hbx  R8 hz_x7
  rw [dd]
  have kO_0 : y9.cell? ⟨o_, 0, none⟩ = some (.int .i64 x) := BO.out.cell 0
  have kO_1 : y9.cell? ⟨o_, 1, none⟩ = some (.int .i64 y) := BO.out.cell 1
  have cH := BH.out.cell
  have zH := BH.out.frozen
  have n1 : ¬ o_ = h_ := by omega
  have n2 : ¬ h_ = o_ := by omega
  go_wp2
  clear zH cH
  clear kO_0 kO_1
  generalize hwd : World.setCell _ ⟨h_, 1, none⟩ _ = wd
  have hwd2 : stores y9 h_ [.int .i64 0, .int .i64 0] 0 = wd := hwd
  have D1 : Blk wd h_ 67 #[.int .i64 0, .int .i64 0] := by rw [← hwd2]; exact BH.out.filled _ rfl
  have RD : Below w.heap.size w wd := by rw [← hwd2]; exact Below.stores (by omega) _ _ _ R10.out
  clear hwd hwd2
  have d1_0 : wd.cell? ⟨h_, 0, none⟩ = some (.int .i64 0) := D1.cell 0
  have d1_1 : wd.cell? ⟨h_, 1, none⟩ = some (.int .i64 0) := D1.cell 1
  try go_wp2_with fail
  refine bodyPost_ret (v := .tuple #[.agg #[.int .i64 0, .int .i64 0], .int .i64 4]) (by simp [results, Try.results101, go_sem, *]) rfl ⟨rfl, RD⟩
set_option maxRecDepth 100000 in
set_option maxHeartbeats 4000000 in
theorem add_ok (a b c d : Int) (w : World) (h1 : spanOk a b) (h2 : spanOk c d) (h3 : spanOk (a + c) (b + d)) : Calls Try.prog 86 #[.agg #[.int .i64 a, .int .i64 b], .agg #[.int .i64 c, .int .i64 d]] w fun e w' => e = .returned (.tuple #[.agg #[.int .i64 (a + c), .int .i64 (b + d)], .int .i64 0]) ∧ Below w.heap.size w w' := by
  have H1 := Lib.hid h1
  have H2 := Lib.hid h2
  have H3 := Lib.hid h3
  clear h1 h2 h3
  obtain ⟨x, hx⟩ : ∃ x, a + c = x := ⟨_, rfl⟩
  obtain ⟨y, hy⟩ : ∃ y, b + d = y := ⟨_, rfl⟩
  rw [hx, hy]
  have HX := Lib.hid hx
  have HY := Lib.hid hy
  clear hx hy
  go_enter Try.func86, Try.ntmps86
  go_upto_region 1 with fail
  obtain ⟨x1, s_, u_, h_, ex1, es_, eu_, eh_⟩ : ∃ x1 s_ u_ h_, x1 = ((w.alloc (.cells #[.int .i64 a, .int .i64 b] 67)).alloc (.cells #[.int .i64 c, .int .i64 d] 67)).alloc (.cells #[.int .i64 0, .int .i64 0] 67) ∧ s_ = w.heap.size ∧ u_ = w.heap.size + 1 ∧ h_ = w.heap.size + 1 + 1 := ⟨_, _, _, _, rfl, rfl, rfl, rfl⟩
  rw [← ex1, ← eh_, ← eu_, ← es_]
  have hbx : Below w.heap.size w x1 := by rw [ex1]; exact below_alloc3 _ _ _ _ 
  have o_S_U : s_ < u_ := by omega
  have o_U_H : u_ < h_ := by omega
  have g_S : w.heap.size ≤ s_ := by rw [es_]; exact Nat.le_refl _
  have BS := Lib.hid (show Blk x1 s_ 67 #[.int .i64 a, .int .i64 b] by rw [ex1, es_]; exact blk_new3_0 _ _ _ _ _ _ _ )
  have BU := Lib.hid (show Blk x1 u_ 67 #[.int .i64 c, .int .i64 d] by rw [ex1, eu_]; exact blk_new3_1 _ _ _ _ _ _ _ )
  have BH := Lib.hid (show Blk x1 h_ 67 #[.int .i64 0, .int .i64 0] by rw [ex1, eh_]; exact blk_new3_2 _ _ _ _ _ _ _ )
  have R2 := Lib.hid hbx
  have hz_x1 := R2.out.size
  clear hbx ex1 es_ eu_ eh_
  have kS_0 : x1.cell? ⟨s_, 0, none⟩ = some (.int .i64 a) := BS.out.cell 0
  have kS_1 : x1.cell? ⟨s_, 1, none⟩ = some (.int .i64 b) := BS.out.cell 1
  have kU_0 : x1.cell? ⟨u_, 0, none⟩ = some (.int .i64 c) := BU.out.cell 0
  have kU_1 : x1.cell? ⟨u_, 1, none⟩ = some (.int .i64 d) := BU.out.cell 1
  go_wp2_with fail
  clear kS_0 kS_1 kU_0 kU_1
  obtain ⟨x3, g_, ex3, eg_⟩ : ∃ x3 g_, x3 = x1.alloc (.cells #[.int .i64 a, .int .i64 b, .int .i64 c, .int .i64 d] 67) ∧ g_ = x1.heap.size := ⟨_, _, rfl, rfl⟩
  rw [← ex3, ← eg_]
  have hbx : Below x1.heap.size x1 x3 := by rw [ex3]; exact below_alloc1 _ _ 
  have o_S_G : s_ < g_ := by rw [eg_]; exact BS.out.lt
  have o_U_G : u_ < g_ := by rw [eg_]; exact BU.out.lt
  have o_H_G : h_ < g_ := by rw [eg_]; exact BH.out.lt
  have g_G : w.heap.size ≤ g_ := by rw [eg_]; exact hz_x1
  have BS := Lib.hid (BS.out.stays hbx)
  have BU := Lib.hid (BU.out.stays hbx)
  have BH := Lib.hid (BH.out.stays hbx)
  have BG := Lib.hid (show Blk x3 g_ 67 #[.int .i64 a, .int .i64 b, .int .i64 c, .int .i64 d] by rw [ex3, eg_]; exact blk_new1_0 _ _ _ )
  have R4 := Lib.hid (R2.out.trans (hbx.mono hz_x1))
  have hz_x3 := R4.out.size
  clear hbx ex3 eg_ R2 hz_x1
  refine (result_ok a b c d s_ u_ g_ _ BS.out BU.out BG.out H1.out H2.out H3.out).mono ?_
  rintro e y5 ⟨rfl, hb⟩
  have hbx : Below x3.heap.size x3 y5 := below_via (by go_grown) hb (by first | (simp; done) | (simp; omega))
  have BS := Lib.hid (BS.out.stays hbx)
  have BU := Lib.hid (BU.out.stays hbx)
  have BH := Lib.hid (BH.out.stays hbx)
  have BG := Lib.hid (BG.out.stays hbx)
  have R6 := Lib.hid (R4.out.trans (hbx.mono hz_x3))
  have hz_y5 := R6.out.size
  clear hb hbx  R4 hz_x3
  rw [HX.out, HY.out]
  have cH := BH.out.cell
  have zH := BH.out.frozen
  go_wp2
  clear zH cH
  generalize hwd : World.setCell _ ⟨h_, 1, none⟩ _ = wd
  have hwd2 : stores y5 h_ [.int .i64 x, .int .i64 y] 0 = wd := hwd
  have D1 : Blk wd h_ 67 #[.int .i64 x, .int .i64 y] := by rw [← hwd2]; exact BH.out.filled _ rfl
  have RD : Below w.heap.size w wd := by rw [← hwd2]; exact Below.stores (by omega) _ _ _ R6.out
  clear hwd hwd2
  have d1_0 : wd.cell? ⟨h_, 0, none⟩ = some (.int .i64 x) := D1.cell 0
  have d1_1 : wd.cell? ⟨h_, 1, none⟩ = some (.int .i64 y) := D1.cell 1
  try go_wp2_with fail
  refine bodyPost_ret (v := .tuple #[.agg #[.int .i64 x, .int .i64 y], .int .i64 0]) (by simp [results, Try.results86, go_sem, *]) rfl ⟨rfl, RD⟩
set_option maxRecDepth 100000 in
set_option maxHeartbeats 4000000 in
theorem add_bad (a b c d : Int) (w : World) (h1 : spanOk a b) (h2 : spanOk c d) (h3 : ¬ spanOk (a + c) (b + d)) : Calls Try.prog 86 #[.agg #[.int .i64 a, .int .i64 b], .agg #[.int .i64 c, .int .i64 d]] w fun e w' => e = .returned (.tuple #[.agg #[.int .i64 0, .int .i64 0], .int .i64 4]) ∧ Below w.heap.size w w' := by
  have H1 := Lib.hid h1
  have H2 := Lib.hid h2
  have H3 := Lib.hid h3
  clear h1 h2 h3
  obtain ⟨x, hx⟩ : ∃ x, a + c = x := ⟨_, rfl⟩
  obtain ⟨y, hy⟩ : ∃ y, b + d = y := ⟨_, rfl⟩
  have HX := Lib.hid hx
  have HY := Lib.hid hy
  clear hx hy
  go_enter Try.func86, Try.ntmps86
  go_upto_region 1 with fail
  obtain ⟨x1, s_, u_, h_, ex1, es_, eu_, eh_⟩ : ∃ x1 s_ u_ h_, x1 = ((w.alloc (.cells #[.int .i64 a, .int .i64 b] 67)).alloc (.cells #[.int .i64 c, .int .i64 d] 67)).alloc (.cells #[.int .i64 0, .int .i64 0] 67) ∧ s_ = w.heap.size ∧ u_ = w.heap.size + 1 ∧ h_ = w.heap.size + 1 + 1 := ⟨_, _, _, _, rfl, rfl, rfl, rfl⟩
  rw [← ex1, ← eh_, ← eu_, ← es_]
  have hbx : Below w.heap.size w x1 := by rw [ex1]; exact below_alloc3 _ _ _ _ 
  have o_S_U : s_ < u_ := by omega
  have o_U_H : u_ < h_ := by omega
  have g_S : w.heap.size ≤ s_ := by rw [es_]; exact Nat.le_refl _
  have BS := Lib.hid (show Blk x1 s_ 67 #[.int .i64 a, .int .i64 b] by rw [ex1, es_]; exact blk_new3_0 _ _ _ _ _ _ _ )
  have BU := Lib.hid (show Blk x1 u_ 67 #[.int .i64 c, .int .i64 d] by rw [ex1, eu_]; exact blk_new3_1 _ _ _ _ _ _ _ )
  have BH := Lib.hid (show Blk x1 h_ 67 #[.int .i64 0, .int .i64 0] by rw [ex1, eh_]; exact blk_new3_2 _ _ _ _ _ _ _ )
  have R2 := Lib.hid hbx
  have hz_x1 := R2.out.size
  clear hbx ex1 es_ eu_ eh_
  have kS_0 : x1.cell? ⟨s_, 0, none⟩ = some (.int .i64 a) := BS.out.cell 0
  have kS_1 : x1.cell? ⟨s_, 1, none⟩ = some (.int .i64 b) := BS.out.cell 1
  have kU_0 : x1.cell? ⟨u_, 0, none⟩ = some (.int .i64 c) := BU.out.cell 0
  have kU_1 : x1.cell? ⟨u_, 1, none⟩ = some (.int .i64 d) := BU.out.cell 1
  go_wp2_with fail
  clear kS_0 kS_1 kU_0 kU_1
  obtain ⟨x3, g_, ex3, eg_⟩ : ∃ x3 g_, x3 = x1.alloc (.cells #[.int .i64 a, .int .i64 b, .int .i64 c, .int .i64 d] 67) ∧ g_ = x1.heap.size := ⟨_, _, rfl, rfl⟩
  rw [← ex3, ← eg_]
  have hbx : Below x1.heap.size x1 x3 := by rw [ex3]; exact below_alloc1 _ _ 
  have o_S_G : s_ < g_ := by rw [eg_]; exact BS.out.lt
  have o_U_G : u_ < g_ := by rw [eg_]; exact BU.out.lt
  have o_H_G : h_ < g_ := by rw [eg_]; exact BH.out.lt
  have g_G : w.heap.size ≤ g_ := by rw [eg_]; exact hz_x1
  have BS := Lib.hid (BS.out.stays hbx)
  have BU := Lib.hid (BU.out.stays hbx)
  have BH := Lib.hid (BH.out.stays hbx)
  have BG := Lib.hid (show Blk x3 g_ 67 #[.int .i64 a, .int .i64 b, .int .i64 c, .int .i64 d] by rw [ex3, eg_]; exact blk_new1_0 _ _ _ )
  have R4 := Lib.hid (R2.out.trans (hbx.mono hz_x1))
  have hz_x3 := R4.out.size
  clear hbx ex3 eg_ R2 hz_x1
  refine (result_bad a b c d s_ u_ g_ _ BS.out BU.out BG.out H1.out H2.out H3.out).mono ?_
  rintro e y5 ⟨rfl, hb⟩
  have hbx : Below x3.heap.size x3 y5 := below_via (by go_grown) hb (by first | (simp; done) | (simp; omega))
  have BS := Lib.hid (BS.out.stays hbx)
  have BU := Lib.hid (BU.out.stays hbx)
  have BH := Lib.hid (BH.out.stays hbx)
  have BG := Lib.hid (BG.out.stays hbx)
  have R6 := Lib.hid (R4.out.trans (hbx.mono hz_x3))
  have hz_y5 := R6.out.size
  clear hb hbx  R4 hz_x3
  have cH := BH.out.cell
  have zH := BH.out.frozen
  go_wp2
  clear zH cH
  generalize hwd : World.setCell _ ⟨h_, 1, none⟩ _ = wd
  have hwd2 : stores y5 h_ [.int .i64 0, .int .i64 0] 0 = wd := hwd
  have D1 : Blk wd h_ 67 #[.int .i64 0, .int .i64 0] := by rw [← hwd2]; exact BH.out.filled _ rfl
  have RD : Below w.heap.size w wd := by rw [← hwd2]; exact Below.stores (by omega) _ _ _ R6.out
  clear hwd hwd2
  have d1_0 : wd.cell? ⟨h_, 0, none⟩ = some (.int .i64 0) := D1.cell 0
  have d1_1 : wd.cell? ⟨h_, 1, none⟩ = some (.int .i64 0) := D1.cell 1
  try go_wp2_with fail
  refine bodyPost_ret (v := .tuple #[.agg #[.int .i64 0, .int .i64 0], .int .i64 4]) (by simp [results, Try.results86, go_sem, *]) rfl ⟨rfl, RD⟩
end Go.Proofs.Ytofadjcphaehcaa
