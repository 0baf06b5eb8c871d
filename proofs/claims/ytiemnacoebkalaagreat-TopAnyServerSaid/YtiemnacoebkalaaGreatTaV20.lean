import Derived.Deep.RegionHeld3
import Derived.Test.YtiemnacoebkalaaGreatTaV14
set_option linter.all false
set_option maxRecDepth 100000
set_option maxHeartbeats 4000000
namespace Go.Proofs.YtiemnacoebkalaaGreat
open Go Go.RowKit
theorem drop_at {l : List UInt8} {o i : Nat} : bU (l.drop o) i = bU l (o + i) := by unfold bU; simp [List.getD]
theorem take_at {l : List UInt8} {n i : Nat} (h : i < n) : bU (l.take n) i = bU l i := by unfold bU; simp [List.getD, List.getElem?_take, h]
theorem mix_any (b : Nat) (T : TypeId) (l : List UInt8) (w : World) (hb : Blk w b T (bytesC l)) (hl : l.length = 16) : Calls Tryz.prog 163 #[.pointer (some ⟨b, 0, none⟩)] w fun e w' => e = .returned undef ∧ Blk w' b T (bytesC (mixB l 4)) ∧ w.grownBy w' (some b) := by
 have HB := qq hb; have hlt := hb.lt; have HL := qq hl; clear hb
 go_enter Tryz.func163, Tryz.ntmps163
 go_wp2_with fail
 go_loopw [2] (fun i wr => ∃ q : Nat, q <= 4 ∧ i = .int .i64 (4 * q : Nat) ∧ Hid (Blk wr b T (bytesC (mixB l q))) ∧ w.grownBy wr (some b)) (fun i _ => 16 - (intOf i).toNat)
 case atStart => exact ⟨0, by omega, rfl, HB.out, World.grownBy.refl _ _⟩
 case round =>
  clear HB; obtain ⟨q, hq, rfl, BB, hg⟩ := hrel; have HG := qq hg; have hlr := BB.out.lt; clear hg
  by_cases hq4 : q < 4
  · obtain ⟨s, hs⟩ : ∃ s, mixB l q = s := ⟨_, rfl⟩; have hsl : s.length = 16 := by rw [<- hs, mixB_length, HL.out]
    have HN : Hid (mixB l (q + 1) = mixC (4 * q) ((s.drop (4 * q)).take 4) s 4) := by unfold Hid; rw [mixB, hs]
    rw [hs] at BB; clear hs; obtain ⟨c, hc⟩ : ∃ c, 4 * q = c := ⟨_, rfl⟩; rw [hc] at HN ⊢; have hc12 : c <= 12 := by omega
    obtain ⟨v, hv⟩ : ∃ v, (s.drop c).take 4 = v := ⟨_, rfl⟩; rw [hv] at HN; have hvl : v.length = 4 := by rw [<- hv, List.length_take, List.length_drop]; omega
    have hva : ∀ i, i < 4 -> byteAt v i = byteAt s (c + i) := fun i hi => by rw [byteAt_bU, byteAt_bU, <- hv, take_at hi, drop_at]
    have k0 : wr.cell? ⟨b, c, none⟩ = some (.int .u8 (byteAt v 0)) := by rw [BB.out.cell, hva 0 (by omega)]; exact bytesC_at (by omega)
    have k1 : wr.cell? ⟨b, c + 1, none⟩ = some (.int .u8 (byteAt v 1)) := by rw [BB.out.cell, hva 1 (by omega)]; exact bytesC_at (by omega)
    have k2 : wr.cell? ⟨b, c + 2, none⟩ = some (.int .u8 (byteAt v 2)) := by rw [BB.out.cell, hva 2 (by omega)]; exact bytesC_at (by omega)
    have k3 : wr.cell? ⟨b, c + 3, none⟩ = some (.int .u8 (byteAt v 3)) := by rw [BB.out.cell, hva 3 (by omega)]; exact bytesC_at (by omega)
    have i0 : (c : Int) < 16 := by omega
    have i1 : (c : Int) <= 16 := by omega
    have i2 : (0 : Int) <= (c : Int) := by omega
    have hat := fun (W : World) => run_arrayAt (P := Tryz.prog) W 239 5 4 (some ⟨b, c, none⟩) (16 - c) (16 - c) Tryz.underlying239 (by omega)
    clear hva hv
    go_upto_region 4 with fail
    rw [<- bytesC_4 hvl]; obtain ⟨x1, o_, ex1, eo_⟩ : ∃ x1 o_, x1 = wr.alloc (.cells (bytesC v) 239) ∧ o_ = wr.heap.size := ⟨_, _, rfl, rfl⟩; rw [<- ex1, <- eo_]; have hbx : Below wr.heap.size wr x1 := by rw [ex1]; exact below_alloc1 _ _
    have BO := qq (show Blk x1 o_ 239 (bytesC v) by rw [ex1, eo_]; exact blk_new1_0 _ _ _); have BB := qs BB hbx; have hne : ¬ o_ = b := by omega
    have hne2 : ¬ b = o_ := by omega
    have R := qq hbx; clear hbx ex1 eo_ k0 k1 k2 k3 hat; obtain ⟨x0, hx0⟩ : ∃ x, bU v 0 = x := ⟨_, rfl⟩; obtain ⟨x_1, hx1⟩ : ∃ x, bU v 1 = x := ⟨_, rfl⟩; obtain ⟨x2, hx2⟩ : ∃ x, bU v 2 = x := ⟨_, rfl⟩; obtain ⟨x3, hx3⟩ : ∃ x, bU v 3 = x := ⟨_, rfl⟩; have c0 : x1.cell? ⟨o_, 0, none⟩ = some (.int .u8 x0.toNat) := by rw [BO.out.cell, bytesC_at (by omega), byteAt_bU, hx0]
    have c1 : x1.cell? ⟨o_, 1, none⟩ = some (.int .u8 x_1.toNat) := by rw [BO.out.cell, bytesC_at (by omega), byteAt_bU, hx1]
    have c2 : x1.cell? ⟨o_, 2, none⟩ = some (.int .u8 x2.toNat) := by rw [BO.out.cell, bytesC_at (by omega), byteAt_bU, hx2]
    have c3 : x1.cell? ⟨o_, 3, none⟩ = some (.int .u8 x3.toNat) := by rw [BO.out.cell, bytesC_at (by omega), byteAt_bU, hx3]
    have e1 := xor_u8 x0 x_1; have e2 := xor_u8 (x0 ^^^ x_1) x2; have e3 := xor_u8 (x0 ^^^ x_1 ^^^ x2) x3; obtain ⟨al, hal⟩ : ∃ al, x0 ^^^ x_1 ^^^ x2 ^^^ x3 = al := ⟨_, rfl⟩; rw [hal] at e3; obtain ⟨y2, hy2⟩ : ∃ y, x0 ^^^ x_1 ^^^ x2 = y := ⟨_, rfl⟩; rw [hy2] at e2 e3; obtain ⟨y1, hy1⟩ : ∃ y, x0 ^^^ x_1 = y := ⟨_, rfl⟩; rw [hy1] at e1 e2; have HAL : Hid (bU v 0 ^^^ bU v 1 ^^^ bU v 2 ^^^ bU v 3 = al) := by unfold Hid; rw [hx0, hx1, hx2, hx3, hal]
    have HIX : Hid (∀ r : Nat, r < 4 -> ∀ W : World, (Instr.index 239 (.agg #[.int .u8 x0.toNat, .int .u8 x_1.toNat, .int .u8 x2.toNat, .int .u8 x3.toNat]) (.int .i64 (r : Int))).run Tryz.prog W = .ok (.int .u8 (bU v r).toNat) W) := by
     intro r hr W; rcases (by omega : r = 0 ∨ r = 1 ∨ r = 2 ∨ r = 3) with rfl | rfl | rfl | rfl
     · rw [hx0]; kernel_rfl
     · rw [hx1]; kernel_rfl
     · rw [hx2]; kernel_rfl
     · rw [hx3]; kernel_rfl
    clear hx0 hx1 hx2 hx3 hal hy2 hy1
    go_wp2_with fail
    clear c0 c1 c2 c3 e1 e2 e3
    go_loopw [29] (fun i wq => ∃ r : Nat, r <= 4 ∧ i = .int .i64 r ∧ Hid (Blk wq b T (bytesC (mixC c v s r))) ∧ x1.grownBy wq (some b)) (fun i _ => 4 - (intOf i).toNat)
    case atStart => exact ⟨0, by omega, rfl, BB.out, World.grownBy.refl _ _⟩
    case round =>
     clear BB; obtain ⟨r, hr, rfl, BB, hg⟩ := hrel; have HG2 := qq hg; clear hg
     by_cases hr4 : r < 4
     · have hix := HIX.out r hr4; have rel4 : (r : Int) < 4 := by omega
       obtain ⟨s2, hs2⟩ : ∃ s2, mixC c v s r = s2 := ⟨_, rfl⟩; have hs2l : s2.length = 16 := by rw [<- hs2, mixC, setsL_length, hsl]
       have HN2 : Hid (mixC c v s (r + 1) = s2.set (c + r) (bU v r ^^^ (bU v 0 ^^^ bU v 1 ^^^ bU v 2 ^^^ bU v 3) ^^^ dblU (bU v r ^^^ bU v ((r + 1) % 4)))) := by unfold Hid; rw [<- hs2]; rfl
       rw [HAL.out] at HN2; rw [hs2] at BB; obtain ⟨r', hr'⟩ : ∃ r', (r + 1) % 4 = r' := ⟨_, rfl⟩; have hr'4 : r' < 4 := by omega
       have ri0 : (0 : Int) <= (r' : Int) := by omega
       have ri1 : (r' : Int) < 4 := by omega
       rw [hr'] at HN2; obtain ⟨xr, hxr⟩ : ∃ x, bU v r = x := ⟨_, rfl⟩; obtain ⟨xs, hxs⟩ : ∃ x, bU v r' = x := ⟨_, rfl⟩; have c2 : wr.cell? ⟨o_, r', none⟩ = wr.cell? ⟨o_, r', none⟩ := rfl; clear c2; have cS : ∀ W : World, x1.grownBy W (some b) -> W.cell? ⟨o_, r', none⟩ = some (.int .u8 xs.toNat) := fun W hW => by have h := ((At.of_blk BO.out).grown hW (by simpa using hne)).2 r' (by omega); rw [Nat.zero_add, byteAt_bU, hxs] at h; exact h
       have c1 := cS _ HG2.out; have cB : _ := BB.out.cell (c + r); rw [bytesC_at (by omega)] at cB; have fB := BB.out.frozen (c + r); rw [hxr] at hix HN2; rw [hxs] at HN2; have e1 := xor_u8 xr al; have e2 := xor_u8 xr xs; obtain ⟨y4, hy4⟩ : ∃ y, xr ^^^ al = y := ⟨_, rfl⟩; obtain ⟨y5, hy5⟩ : ∃ y, xr ^^^ xs = y := ⟨_, rfl⟩; rw [hy4] at e1 HN2; rw [hy5] at e2 HN2; obtain ⟨y6, hy6⟩ : ∃ y, dblU y5 = y := ⟨_, rfl⟩; have CD := qq (fun w => double_any y5 w); rw [hy6] at CD HN2; have e3 := xor_u8 y4 y6; obtain ⟨z, hz⟩ : ∃ z, y4 ^^^ y6 = z := ⟨_, rfl⟩; rw [hz] at e3 HN2; obtain ⟨cr, hcr⟩ : ∃ cr, c + r = cr := ⟨_, rfl⟩; rw [hcr] at HN2 cB fB; obtain ⟨r1, hr1⟩ : ∃ r1, r + 1 = r1 := ⟨_, rfl⟩; have m1 : IntKind.i64.wrap ((c : Int) + (r : Int)) = (cr : Int) := by rw [show (c : Int) + (r : Int) = (cr : Int) by omega]; exact IntWalk.i64_in _ (by omega)
       have m2 : IntKind.i64.wrap ((r : Int) + 1) = (r1 : Int) := by rw [show (r : Int) + 1 = (r1 : Int) by omega]; exact IntWalk.i64_in _ (by omega)
       have m3 : (r1 : Int).tmod 4 = (r' : Int) := by rw [Int.tmod_eq_emod_of_nonneg (by omega)]; omega
       have j0 : (0 : Int) <= (cr : Int) := by omega
       have j1 : (cr : Int) < 16 := by omega
       clear hs2 hr' hxr hxs hy4 hy5 hy6 hz hcr
       go_upto_region 8 with fail
       go_region_held3 (fun w' => w'.cell? ⟨o_, r', none⟩ = some (.int .u8 xs.toNat)) (go_keep) (first | (go_at_call 160; (with_reducible refine (CD.out _).mono ?_); rintro e w1 ⟨rfl, rfl⟩))
       go_wp2
       go_roundw
       case rel =>
        refine ⟨r + 1, by omega, by go_num, ?_, grown_drew (grown_put HG2.out cr _)⟩; rw [HN2.out, <- bytesC_set]; exact (Blk.put BB.out cr (byteV z)).same rfl
       case measure => simp [intOf]; omega
     · obtain rfl : r = 4 := by omega
       go_wp2
       go_roundw
       case rel =>
        refine ⟨q + 1, by omega, by rw [show ((4 * (q + 1) : Nat) : Int) = (c : Int) + 4 by omega], ?_, (HG.out.trans (grown_of_below R.out (some b))).trans HG2.out⟩; rw [HN.out]; exact BB.out
       case measure => simp [intOf]; omega
  · obtain rfl : q = 4 := by omega
    go_wp2
    go_end0
    exact ⟨rfl, BB.out, HG.out⟩
theorem keyAt_length {ks : List UInt8} (h : ks.length = 176) {r : Nat} (hr : r <= 10) : (keyAt ks r).length = 16 := by
 unfold keyAt; rw [List.length_take, List.length_drop]; omega
theorem At.key {w : World} {g : Nat} {T : TypeId} {ks : List UInt8} (h : Blk w g T (bytesC ks)) (hl : ks.length = 176) {r : Nat} (hr : r <= 10) : At w g (16 * r) (keyAt ks r) :=
 ⟨h.lt, fun i hi => by
  rw [keyAt_length hl hr] at hi; rw [h.cell, bytesC_at (by omega), byteAt_bU, byteAt_bU]; unfold keyAt; rw [take_at hi, drop_at]⟩
theorem encrypt_any (g b : Nat) (T : TypeId) (ks l : List UInt8) (w : World) (hg : Blk w g 243 (bytesC ks)) (hk : ks.length = 176) (hb : Blk w b T (bytesC l)) (hl : l.length = 16) (hne : g ≠ b) : Calls Tryz.prog 152 #[.pointer (some ⟨g, 0, none⟩), .pointer (some ⟨b, 0, none⟩)] w fun e w' => e = .returned undef ∧ Blk w' b T (bytesC (aesB ks l)) ∧ w.grownBy w' (some b) := by
 have HB := qq hb; have HG := qq hg; have HL := qq hl; clear hb hg
 go_enter Tryz.func152, Tryz.ntmps152
 go_wp2_with fail
 refine (blockXor_any b 0 g T l (keyAt ks 0) _ HB.out hl (At.key HG.out hk (by omega)) (keyAt_length hk (by omega)) hne).mono ?_; rintro e w1 ⟨rfl, hb1, hg1⟩; have BB := qq (show Blk w1 b T (bytesC (roundsB ks l 0)) from hb1); have GG := qq hg1; clear hb1 hg1
 go_wp2_with fail
 go_loopw [4] (fun i wr => ∃ r : Nat, r <= 10 ∧ i = .int .i64 ((r : Int) + 1) ∧ Hid (Blk wr b T (bytesC (roundsB ks l r))) ∧ w.grownBy wr (some b)) (fun i _ => 11 - (intOf i).toNat)
 case atStart => exact ⟨0, by omega, rfl, BB, GG.out⟩
 case round =>
  clear BB GG; obtain ⟨r, hr, rfl, BB, hgr⟩ := hrel; have GG := qq hgr; clear hgr; have hrl := roundsB_length ks l r; rw [HL.out] at hrl
  by_cases hr10 : r < 10
  · have ir : (r : Int) + 1 <= 10 := by omega
    have HN : Hid (roundsB ks l (r + 1) = xorB (if r + 1 < 10 then mixB (replB (roundsB ks l r)) 4 else replB (roundsB ks l r)) (keyAt ks (r + 1))) := rfl; obtain ⟨s, hs⟩ : ∃ s, roundsB ks l r = s := ⟨_, rfl⟩; rw [hs] at BB hrl HN; clear hs; have h2 : (replB s).length = 16 := by rw [replB, setsL_length, hrl]
    have h3 : (mixB (replB s) 4).length = 16 := by rw [mixB_length, h2]
    have ix0 : (0 : Int) <= (r : Int) + 1 := by omega
    have ix1 : (r : Int) + 1 < 11 := by omega
    go_wp2_with fail
    refine (replace_any b T s _ BB.out hrl).mono ?_; rintro e w2 ⟨rfl, hb1, hg1⟩; have BB := qq hb1; have GG := qq (GG.out.trans hg1); clear hb1 hg1; obtain ⟨o16, ho⟩ : ∃ o16, (r + 1) * 16 = o16 := ⟨_, rfl⟩; have HO := qq ho; have HO2 := qq (show 16 * (r + 1) = o16 by omega); clear ho
    by_cases hr9 : r + 1 < 10
    · have c9 : (r : Int) + 1 < 10 := by omega
      rw [if_pos hr9] at HN
      go_wp2_with fail
      refine (mix_any b T (replB s) _ BB.out h2).mono ?_; rintro e w3 ⟨rfl, hb1, hg1⟩; have BB := qq hb1; have GG := qq (GG.out.trans hg1); clear hb1 hg1
      go_wp2_with fail
      rw [HO.out]; refine (blockXor_any b o16 g T (mixB (replB s) 4) (keyAt ks (r + 1)) _ BB.out h3 (by have h := At.key (HG.out.grown GG.out (by simpa using hne)) hk (r := r + 1) (by omega); rw [HO2.out] at h; exact h) (keyAt_length hk (by omega)) hne).mono ?_; rintro e w4 ⟨rfl, hb1, hg1⟩; have BB := qq hb1; have GG := qq (GG.out.trans hg1); clear hb1 hg1 HO HO2; go_wp2
      go_roundw
      case rel => exact ⟨r + 1, by omega, by go_num, by rw [HN.out]; exact BB, GG.out⟩
      case measure => simp [intOf]; omega
    · rw [if_neg hr9] at HN; obtain rfl : r = 9 := by omega
      clear ir ix0 ix1 hr9; simp only [show ((9 : Nat) : Int) + 1 = 10 from rfl]
      go_wp2_with fail
      refine (blockXor_any b 160 g T (replB s) (keyAt ks 10) _ BB.out h2 (At.key (HG.out.grown GG.out (by simpa using hne)) hk (r := 10) (by omega)) (keyAt_length hk (by omega)) hne).mono ?_; rintro e w4 ⟨rfl, hb1, hg1⟩; have BB := qq hb1; have GG := qq (GG.out.trans hg1); clear hb1 hg1 HO HO2; go_wp2
      go_roundw
      case rel => exact ⟨10, by omega, by go_num, by rw [HN.out]; exact BB, GG.out⟩
      case measure => simp [intOf]
  · obtain rfl : r = 10 := by omega
    go_wp2
    go_end0
    exact ⟨rfl, BB.out, GG.out⟩
end Go.Proofs.YtiemnacoebkalaaGreat
