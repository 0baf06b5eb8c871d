/- interleave.Serve. -/
import Derived.Test.YtfkckokaclkjnaaPkDG
import Derived.Test.YtfkckokaclkjnaaEch
import Derived.Test.YtfkckokaclkjnaaStores
namespace Go.Proofs.Ytfkckokaclkjnaa
open Go.RowKit

set_option maxRecDepth 100000 in
set_option maxHeartbeats 4000000 in
theorem serve_zero_lt (A : Option Addr) (n c : Nat) (l : List (Nat × Nat)) (h0 h1 h2 h3 h4 h5 : Int) (h6 h7 h8 h9 h10 h11 h12 : Nat) (s : Int) (rc tx : Nat) (w : World) (hv : Echs w A n c l) (h : HdOk h0 h1 h2 h3 h4 h5) (hm : h2 = 3) (s0 : 0 ≤ s) (s1 : s ≤ 255) (hr : findE l rc = -1) (hn : n ≤ 7) (ho : h10 = 0) :
    Calls Try.prog 8 #[.slice A n c, .agg #[.int .i64 h0, .int .i64 h1, .int .i64 h2, .int .i64 h3, .int .i64 h4, .int .i64 h5, .int .u32 h6, .int .u32 h7, .int .u32 h8, .int .u64 h9, .int .u64 h10, .int .u64 h11, .int .u64 h12], .int .i64 s, .int .u64 rc, .int .u64 tx] w fun e w' =>
      ∃ A' c', e = .returned (.tuple #[.slice A' (1 + n) c', .agg #[.int .i64 0, .int .i64 h1, .int .i64 4, .int .i64 s, .int .i64 h4, .int .i64 (-20), .int .u32 0, .int .u32 0, .int .u32 0, .int .u64 0, .int .u64 h12, .int .u64 rc, .int .u64 tx], .bool false, .int .i64 0]) ∧ Echs w' A' (1 + n) c' (((rc, tx) :: l).take 8) ∧ (∀ x, A' = some x → w.heap.size ≤ x.block) ∧ Below w.heap.size w w' := by
  have HM := Lib.hid hm
  clear hm
  have q1 := hv.le
  have q2 := hv.cap
  have HOK := Lib.hid h
  have HL := Lib.hid hv.len
  clear h
  obtain ⟨i0, hi, hz0, hz1, hz2⟩ := info_parts infoEch
  have cw := Lib.hid (fun W (h : Echs W A n c l) => with_any A n c l rc W h); rw [hr] at cw
  have cf := Lib.hid (fun W (h : Echs W A n c l) => with_any A n c l h10 W h)
  have ho2 : (h10 : Int) = 0 := by omega
  have hod : ((h10 : Int) != 0) = false := by simpa using ho2
  obtain ⟨fv, hfv⟩ : ∃ fv, findE l h10 = fv := ⟨_, rfl⟩
  rw [hfv] at cf
  clear hfv ho ho2
  clear hr
  have hn8 : ¬ (n : Int) > 8 := by omega
  have hn9 : 1 + (n : Int) ≤ 8 := by omega
  have hn10 : ¬ 8 < 1 + (n : Int) := by omega
  have HV := Lib.hid hv
  have HVw := Lib.hid hv
  clear hv
  go_enter Try.func8, Try.ntmps8
  go_upto_region 1 with fail
  obtain ⟨x1, q_, h_, ex1, eq_, eh_⟩ : ∃ x1 q_ h_, x1 = (w.alloc (.cells #[.int .i64 h0, .int .i64 h1, .int .i64 h2, .int .i64 h3, .int .i64 h4, .int .i64 h5, .int .u32 h6, .int .u32 h7, .int .u32 h8, .int .u64 h9, .int .u64 h10, .int .u64 h11, .int .u64 h12] 35)).alloc (.cells #[.int .i64 0, .int .i64 0, .int .i64 0, .int .i64 0, .int .i64 0, .int .i64 0, .int .u32 0, .int .u32 0, .int .u32 0, .int .u64 0, .int .u64 0, .int .u64 0, .int .u64 0] 35) ∧ q_ = w.heap.size ∧ h_ = w.heap.size + 1 := ⟨_, _, _, rfl, rfl, rfl⟩
  rw [← ex1, ← eh_, ← eq_]
  have hbx : Below w.heap.size w x1 := by rw [ex1]; exact below_alloc2 _ _ _ 
  have o_Q_H : q_ < h_ := by omega
  have g_Q : w.heap.size ≤ q_ := by rw [eq_]; exact Nat.le_refl _
  have HV := Lib.hid (HV.out.stays hbx)
  have BQ := Lib.hid (show Blk x1 q_ 35 #[.int .i64 h0, .int .i64 h1, .int .i64 h2, .int .i64 h3, .int .i64 h4, .int .i64 h5, .int .u32 h6, .int .u32 h7, .int .u32 h8, .int .u64 h9, .int .u64 h10, .int .u64 h11, .int .u64 h12] by rw [ex1, eq_]; exact blk_new2_0 _ _ _ _ _ )
  have BH := Lib.hid (show Blk x1 h_ 35 #[.int .i64 0, .int .i64 0, .int .i64 0, .int .i64 0, .int .i64 0, .int .i64 0, .int .u32 0, .int .u32 0, .int .u32 0, .int .u64 0, .int .u64 0, .int .u64 0, .int .u64 0] by rw [ex1, eh_]; exact blk_new2_1 _ _ _ _ _ )
  have R2 := Lib.hid hbx
  have hz_x1 := R2.out.size
  clear hbx ex1 eq_ eh_
  have kQ_0 : x1.cell? ⟨q_, 0, none⟩ = some (.int .i64 h0) := BQ.out.cell 0
  have kQ_1 : x1.cell? ⟨q_, 1, none⟩ = some (.int .i64 h1) := BQ.out.cell 1
  have kQ_2 : x1.cell? ⟨q_, 2, none⟩ = some (.int .i64 h2) := BQ.out.cell 2
  have kQ_3 : x1.cell? ⟨q_, 3, none⟩ = some (.int .i64 h3) := BQ.out.cell 3
  have kQ_4 : x1.cell? ⟨q_, 4, none⟩ = some (.int .i64 h4) := BQ.out.cell 4
  have kQ_5 : x1.cell? ⟨q_, 5, none⟩ = some (.int .i64 h5) := BQ.out.cell 5
  have kQ_6 : x1.cell? ⟨q_, 6, none⟩ = some (.int .u32 h6) := BQ.out.cell 6
  have kQ_7 : x1.cell? ⟨q_, 7, none⟩ = some (.int .u32 h7) := BQ.out.cell 7
  have kQ_8 : x1.cell? ⟨q_, 8, none⟩ = some (.int .u32 h8) := BQ.out.cell 8
  have kQ_9 : x1.cell? ⟨q_, 9, none⟩ = some (.int .u64 h9) := BQ.out.cell 9
  have kQ_10 : x1.cell? ⟨q_, 10, none⟩ = some (.int .u64 h10) := BQ.out.cell 10
  have kQ_11 : x1.cell? ⟨q_, 11, none⟩ = some (.int .u64 h11) := BQ.out.cell 11
  have kQ_12 : x1.cell? ⟨q_, 12, none⟩ = some (.int .u64 h12) := BQ.out.cell 12
  go_wp2_with fail
  refine (reply_ok h0 h1 h2 h3 h4 h5 h6 h7 h8 h9 h10 h11 h12 s rc tx _ HOK.out HM.out s0 s1).mono ?_
  rintro e y3 ⟨rfl, hb⟩
  clear kQ_0 kQ_1 kQ_2 kQ_3 kQ_4 kQ_5 kQ_6 kQ_7 kQ_8 kQ_9 kQ_10 kQ_11 kQ_12
  have hbx : Below x1.heap.size x1 y3 := below_via (by go_grown) hb (by first | (simp; done) | (simp; omega))
  have BQ := Lib.hid (BQ.out.stays hbx)
  have BH := Lib.hid (BH.out.stays hbx)
  have HV := Lib.hid (HV.out.stays hbx)
  have R4 := Lib.hid (R2.out.trans (hbx.mono hz_x1))
  have hz_y3 := R4.out.size
  clear hb hbx  R2 hz_x1
  have kH_0 : y3.cell? ⟨h_, 0, none⟩ = some (.int .i64 0) := BH.out.cell 0
  have kH_1 : y3.cell? ⟨h_, 1, none⟩ = some (.int .i64 0) := BH.out.cell 1
  have kH_2 : y3.cell? ⟨h_, 2, none⟩ = some (.int .i64 0) := BH.out.cell 2
  have kH_3 : y3.cell? ⟨h_, 3, none⟩ = some (.int .i64 0) := BH.out.cell 3
  have kH_4 : y3.cell? ⟨h_, 4, none⟩ = some (.int .i64 0) := BH.out.cell 4
  have kH_5 : y3.cell? ⟨h_, 5, none⟩ = some (.int .i64 0) := BH.out.cell 5
  have kH_6 : y3.cell? ⟨h_, 6, none⟩ = some (.int .u32 0) := BH.out.cell 6
  have kH_7 : y3.cell? ⟨h_, 7, none⟩ = some (.int .u32 0) := BH.out.cell 7
  have kH_8 : y3.cell? ⟨h_, 8, none⟩ = some (.int .u32 0) := BH.out.cell 8
  have kH_9 : y3.cell? ⟨h_, 9, none⟩ = some (.int .u64 0) := BH.out.cell 9
  have kH_10 : y3.cell? ⟨h_, 10, none⟩ = some (.int .u64 0) := BH.out.cell 10
  have kH_11 : y3.cell? ⟨h_, 11, none⟩ = some (.int .u64 0) := BH.out.cell 11
  have kH_12 : y3.cell? ⟨h_, 12, none⟩ = some (.int .u64 0) := BH.out.cell 12
  have fH_0 := BH.out.frozen 0
  have fH_1 := BH.out.frozen 1
  have fH_2 := BH.out.frozen 2
  have fH_3 := BH.out.frozen 3
  have fH_4 := BH.out.frozen 4
  have fH_5 := BH.out.frozen 5
  have fH_6 := BH.out.frozen 6
  have fH_7 := BH.out.frozen 7
  have fH_8 := BH.out.frozen 8
  have fH_9 := BH.out.frozen 9
  have fH_10 := BH.out.frozen 10
  have fH_11 := BH.out.frozen 11
  have fH_12 := BH.out.frozen 12
  go_upto_region 2 with fail
  clear kH_0 kH_1 kH_2 kH_3 kH_4 kH_5 kH_6 kH_7 kH_8 kH_9 kH_10 kH_11 kH_12 fH_0 fH_1 fH_2 fH_3 fH_4 fH_5 fH_6 fH_7 fH_8 fH_9 fH_10 fH_11 fH_12
  generalize ex : World.setCell _ ⟨h_, 12, none⟩ _ = x5
  have ex2 : stores y3 h_ [.int .i64 0, .int .i64 h1, .int .i64 4, .int .i64 s, .int .i64 h4, .int .i64 (-20), .int .u32 0, .int .u32 0, .int .u32 0, .int .u64 0, .int .u64 h12, .int .u64 rc, .int .u64 tx] 0 = x5 := ex
  have BQ := Lib.hid (show Blk x5 q_ 35 #[.int .i64 h0, .int .i64 h1, .int .i64 h2, .int .i64 h3, .int .i64 h4, .int .i64 h5, .int .u32 h6, .int .u32 h7, .int .u32 h8, .int .u64 h9, .int .u64 h10, .int .u64 h11, .int .u64 h12] by rw [← ex2]; exact Blk.beside (by omega) _ _ 0 BQ.out)
  have BH := Lib.hid (show Blk x5 h_ 35 #[.int .i64 0, .int .i64 h1, .int .i64 4, .int .i64 s, .int .i64 h4, .int .i64 (-20), .int .u32 0, .int .u32 0, .int .u32 0, .int .u64 0, .int .u64 h12, .int .u64 rc, .int .u64 tx] by rw [← ex2]; exact BH.out.filled _ rfl)
  have R6 := Lib.hid (show Below w.heap.size w x5 by rw [← ex2]; exact Below.stores (by omega) _ _ _ R4.out)
  have hz_x5 := R6.out.size
  clear ex ex2 R4 hz_y3
  go_wp2_with fail
  refine (cw.out _ (HVw.out.stays R6.out)).mono ?_
  rintro e y7 ⟨rfl, hb⟩
  have hbx : Below x5.heap.size x5 y7 := below_via (by go_grown) hb (by first | (simp; done) | (simp; omega))
  have BQ := Lib.hid (BQ.out.stays hbx)
  have BH := Lib.hid (BH.out.stays hbx)
  have R8 := Lib.hid (R6.out.trans (hbx.mono hz_x5))
  have hz_y7 := R8.out.size
  clear hb hbx  R6 hz_x5
  have kQ_10 : y7.cell? ⟨q_, 10, none⟩ = some (.int .u64 h10) := BQ.out.cell 10
  go_wp2_with fail
  refine (cf.out _ (HVw.out.stays R8.out)).mono ?_
  rintro e y9 ⟨rfl, hb⟩
  clear kQ_10
  have hbx : Below y7.heap.size y7 y9 := below_via (by go_grown) hb (by first | (simp; done) | (simp; omega))
  have BQ := Lib.hid (BQ.out.stays hbx)
  have BH := Lib.hid (BH.out.stays hbx)
  have R10 := Lib.hid (R8.out.trans (hbx.mono hz_y7))
  have hz_y9 := R10.out.size
  clear hb hbx  R8 hz_y7
  have kQ_10 : y9.cell? ⟨q_, 10, none⟩ = some (.int .u64 h10) := BQ.out.cell 10
  go_upto_region 12 with fail
  clear kQ_10
  have hown := World.ownsRow_lit (base := y9.heap.size) (e := 67) (size := 2) y9 #[.int .u64 rc, .int .u64 tx] 1 (Nat.le_refl _) (by decide) rfl
  have HO := Lib.hid hown
  clear hown
  have HVc := Lib.hid ((HVw.out.stays R10.out).stays (below_alloc1 _ (.cells #[.int .u64 rc, .int .u64 tx] 67)))
  go_wp2_with (at_builtin; refine wpList_append_rd rfl _ _ 28 rfl i0 _ 16 Try.underlying28 hi hz0 hz1 hz2 rfl (by decide) rfl HO.out rfl HVc.out (echC_one _) (by unfold maxLen; omega) (by omega) (by first | (simp; done) | omega) ?_)
  intro A8 c8 w8 hown8 hg8 hb8
  have o_H := BH.out.lt
  have hbx : Below y9.heap.size y9 w8 := (below_alloc1 _ _).trans hb8
  have BQ := Lib.hid (BQ.out.stays hbx)
  have BH := Lib.hid (BH.out.stays hbx)
  have RF := Lib.hid (R10.out.trans (hbx.mono hz_y9))
  have hz_w8 := RF.out.size
  have HFr : Hid (∀ x, A8 = some x → x.block ≠ h_) := by
    intro x hx e
    subst hx
    have := (hown8.lt x.block rfl).1
    omega
  have HFr2 : Hid (∀ x, A8 = some x → w.heap.size ≤ x.block) := by
    intro x hx
    subst hx
    have := (hown8.lt x.block rfl).1
    omega
  have HE := Lib.hid (own_rd hown8)
  have q3 := HE.out.2.1
  have q4 : c8 ≤ 9223372036854775807 := by have := HE.out.2.2.1; unfold maxLen at this; omega
  clear hown8 hg8 hb8 hbx HO HVc R10 hz_y9
  go_upto_region 13 with fail
  have kH_0 : w8.cell? ⟨h_, 0, none⟩ = some (.int .i64 0) := BH.out.cell 0
  have kH_1 : w8.cell? ⟨h_, 1, none⟩ = some (.int .i64 h1) := BH.out.cell 1
  have kH_2 : w8.cell? ⟨h_, 2, none⟩ = some (.int .i64 4) := BH.out.cell 2
  have kH_3 : w8.cell? ⟨h_, 3, none⟩ = some (.int .i64 s) := BH.out.cell 3
  have kH_4 : w8.cell? ⟨h_, 4, none⟩ = some (.int .i64 h4) := BH.out.cell 4
  have kH_5 : w8.cell? ⟨h_, 5, none⟩ = some (.int .i64 (-20)) := BH.out.cell 5
  have kH_6 : w8.cell? ⟨h_, 6, none⟩ = some (.int .u32 0) := BH.out.cell 6
  have kH_7 : w8.cell? ⟨h_, 7, none⟩ = some (.int .u32 0) := BH.out.cell 7
  have kH_8 : w8.cell? ⟨h_, 8, none⟩ = some (.int .u32 0) := BH.out.cell 8
  have kH_9 : w8.cell? ⟨h_, 9, none⟩ = some (.int .u64 0) := BH.out.cell 9
  have kH_10 : w8.cell? ⟨h_, 10, none⟩ = some (.int .u64 h12) := BH.out.cell 10
  have kH_11 : w8.cell? ⟨h_, 11, none⟩ = some (.int .u64 rc) := BH.out.cell 11
  have kH_12 : w8.cell? ⟨h_, 12, none⟩ = some (.int .u64 tx) := BH.out.cell 12
  have fH_0 := BH.out.frozen 0
  have fH_1 := BH.out.frozen 1
  have fH_2 := BH.out.frozen 2
  have fH_3 := BH.out.frozen 3
  have fH_4 := BH.out.frozen 4
  have fH_5 := BH.out.frozen 5
  have fH_6 := BH.out.frozen 6
  have fH_7 := BH.out.frozen 7
  have fH_8 := BH.out.frozen 8
  have fH_9 := BH.out.frozen 9
  have fH_10 := BH.out.frozen 10
  have fH_11 := BH.out.frozen 11
  have fH_12 := BH.out.frozen 12
  go_outline
  go_region
  clear kH_0 kH_1 kH_2 kH_3 kH_4 kH_5 kH_6 kH_7 kH_8 kH_9 kH_10 kH_11 kH_12 fH_0 fH_1 fH_2 fH_3 fH_4 fH_5 fH_6 fH_7 fH_8 fH_9 fH_10 fH_11 fH_12
  generalize ex : World.drew (World.setCell _ ⟨h_, 12, none⟩ _) = wd
  have ex2 : (stores w8 h_ [.int .i64 0, .int .i64 h1, .int .i64 4, .int .i64 s, .int .i64 h4, .int .i64 (-20), .int .u32 0, .int .u32 0, .int .u32 0, .int .u64 0, .int .u64 h12, .int .u64 rc, .int .u64 tx] 0).drew = wd := ex
  have D1 : Blk wd h_ 35 #[.int .i64 0, .int .i64 h1, .int .i64 4, .int .i64 s, .int .i64 h4, .int .i64 (-20), .int .u32 0, .int .u32 0, .int .u32 0, .int .u64 0, .int .u64 h12, .int .u64 rc, .int .u64 tx] := by rw [← ex2]; exact (BH.out.filled _ rfl).drew
  have RD : Below w.heap.size w wd := by rw [← ex2]; exact (Below.stores (by omega) _ _ _ RF.out).drew
  have HR : Echs wd A8 (1 + n) c8 (((rc, tx) :: l).take 8) := by rw [← ex2]; exact echs_kept HE.out HL.out (by omega) (by omega) HFr.out
  clear ex ex2
  have d1_0 : wd.cell? ⟨h_, 0, none⟩ = some (.int .i64 0) := D1.cell 0
  have d1_1 : wd.cell? ⟨h_, 1, none⟩ = some (.int .i64 h1) := D1.cell 1
  have d1_2 : wd.cell? ⟨h_, 2, none⟩ = some (.int .i64 4) := D1.cell 2
  have d1_3 : wd.cell? ⟨h_, 3, none⟩ = some (.int .i64 s) := D1.cell 3
  have d1_4 : wd.cell? ⟨h_, 4, none⟩ = some (.int .i64 h4) := D1.cell 4
  have d1_5 : wd.cell? ⟨h_, 5, none⟩ = some (.int .i64 (-20)) := D1.cell 5
  have d1_6 : wd.cell? ⟨h_, 6, none⟩ = some (.int .u32 0) := D1.cell 6
  have d1_7 : wd.cell? ⟨h_, 7, none⟩ = some (.int .u32 0) := D1.cell 7
  have d1_8 : wd.cell? ⟨h_, 8, none⟩ = some (.int .u32 0) := D1.cell 8
  have d1_9 : wd.cell? ⟨h_, 9, none⟩ = some (.int .u64 0) := D1.cell 9
  have d1_10 : wd.cell? ⟨h_, 10, none⟩ = some (.int .u64 h12) := D1.cell 10
  have d1_11 : wd.cell? ⟨h_, 11, none⟩ = some (.int .u64 rc) := D1.cell 11
  have d1_12 : wd.cell? ⟨h_, 12, none⟩ = some (.int .u64 tx) := D1.cell 12
  go_wp2_with fail
  refine bodyPost_ret (v := .tuple #[.slice A8 (1 + n) c8, .agg #[.int .i64 0, .int .i64 h1, .int .i64 4, .int .i64 s, .int .i64 h4, .int .i64 (-20), .int .u32 0, .int .u32 0, .int .u32 0, .int .u64 0, .int .u64 h12, .int .u64 rc, .int .u64 tx], .bool false, .int .i64 0]) (by simp [results, Try.results8, go_sem, *]) rfl ⟨_, _, rfl, HR, HFr2.out, RD⟩
set_option maxRecDepth 100000 in
set_option maxHeartbeats 4000000 in
theorem serve_zero_full (A : Option Addr) (n c : Nat) (l : List (Nat × Nat)) (h0 h1 h2 h3 h4 h5 : Int) (h6 h7 h8 h9 h10 h11 h12 : Nat) (s : Int) (rc tx : Nat) (w : World) (hv : Echs w A n c l) (h : HdOk h0 h1 h2 h3 h4 h5) (hm : h2 = 3) (s0 : 0 ≤ s) (s1 : s ≤ 255) (hr : findE l rc = -1) (hn : n = 8) (ho : h10 = 0) :
    Calls Try.prog 8 #[.slice A n c, .agg #[.int .i64 h0, .int .i64 h1, .int .i64 h2, .int .i64 h3, .int .i64 h4, .int .i64 h5, .int .u32 h6, .int .u32 h7, .int .u32 h8, .int .u64 h9, .int .u64 h10, .int .u64 h11, .int .u64 h12], .int .i64 s, .int .u64 rc, .int .u64 tx] w fun e w' =>
      ∃ A' c', e = .returned (.tuple #[.slice A' 8 c', .agg #[.int .i64 0, .int .i64 h1, .int .i64 4, .int .i64 s, .int .i64 h4, .int .i64 (-20), .int .u32 0, .int .u32 0, .int .u32 0, .int .u64 0, .int .u64 h12, .int .u64 rc, .int .u64 tx], .bool false, .int .i64 0]) ∧ Echs w' A' 8 c' (((rc, tx) :: l).take 8) ∧ (∀ x, A' = some x → w.heap.size ≤ x.block) ∧ Below w.heap.size w w' := by
  subst hn
  have HM := Lib.hid hm
  clear hm
  have q1 := hv.le
  have q2 := hv.cap
  have HOK := Lib.hid h
  have HL := Lib.hid hv.len
  clear h
  obtain ⟨i0, hi, hz0, hz1, hz2⟩ := info_parts infoEch
  have cw := Lib.hid (fun W (h : Echs W A 8 c l) => with_any A 8 c l rc W h); rw [hr] at cw
  have cf := Lib.hid (fun W (h : Echs W A 8 c l) => with_any A 8 c l h10 W h)
  have ho2 : (h10 : Int) = 0 := by omega
  have hod : ((h10 : Int) != 0) = false := by simpa using ho2
  obtain ⟨fv, hfv⟩ : ∃ fv, findE l h10 = fv := ⟨_, rfl⟩
  rw [hfv] at cf
  clear hfv ho ho2
  clear hr
  have HV := Lib.hid hv
  have HVw := Lib.hid hv
  clear hv
  go_enter Try.func8, Try.ntmps8
  go_upto_region 1 with fail
  obtain ⟨x1, q_, h_, ex1, eq_, eh_⟩ : ∃ x1 q_ h_, x1 = (w.alloc (.cells #[.int .i64 h0, .int .i64 h1, .int .i64 h2, .int .i64 h3, .int .i64 h4, .int .i64 h5, .int .u32 h6, .int .u32 h7, .int .u32 h8, .int .u64 h9, .int .u64 h10, .int .u64 h11, .int .u64 h12] 35)).alloc (.cells #[.int .i64 0, .int .i64 0, .int .i64 0, .int .i64 0, .int .i64 0, .int .i64 0, .int .u32 0, .int .u32 0, .int .u32 0, .int .u64 0, .int .u64 0, .int .u64 0, .int .u64 0] 35) ∧ q_ = w.heap.size ∧ h_ = w.heap.size + 1 := ⟨_, _, _, rfl, rfl, rfl⟩
  rw [← ex1, ← eh_, ← eq_]
  have hbx : Below w.heap.size w x1 := by rw [ex1]; exact below_alloc2 _ _ _ 
  have o_Q_H : q_ < h_ := by omega
  have g_Q : w.heap.size ≤ q_ := by rw [eq_]; exact Nat.le_refl _
  have HV := Lib.hid (HV.out.stays hbx)
  have BQ := Lib.hid (show Blk x1 q_ 35 #[.int .i64 h0, .int .i64 h1, .int .i64 h2, .int .i64 h3, .int .i64 h4, .int .i64 h5, .int .u32 h6, .int .u32 h7, .int .u32 h8, .int .u64 h9, .int .u64 h10, .int .u64 h11, .int .u64 h12] by rw [ex1, eq_]; exact blk_new2_0 _ _ _ _ _ )
  have BH := Lib.hid (show Blk x1 h_ 35 #[.int .i64 0, .int .i64 0, .int .i64 0, .int .i64 0, .int .i64 0, .int .i64 0, .int .u32 0, .int .u32 0, .int .u32 0, .int .u64 0, .int .u64 0, .int .u64 0, .int .u64 0] by rw [ex1, eh_]; exact blk_new2_1 _ _ _ _ _ )
  have R2 := Lib.hid hbx
  have hz_x1 := R2.out.size
  clear hbx ex1 eq_ eh_
  have kQ_0 : x1.cell? ⟨q_, 0, none⟩ = some (.int .i64 h0) := BQ.out.cell 0
  have kQ_1 : x1.cell? ⟨q_, 1, none⟩ = some (.int .i64 h1) := BQ.out.cell 1
  have kQ_2 : x1.cell? ⟨q_, 2, none⟩ = some (.int .i64 h2) := BQ.out.cell 2
  have kQ_3 : x1.cell? ⟨q_, 3, none⟩ = some (.int .i64 h3) := BQ.out.cell 3
  have kQ_4 : x1.cell? ⟨q_, 4, none⟩ = some (.int .i64 h4) := BQ.out.cell 4
  have kQ_5 : x1.cell? ⟨q_, 5, none⟩ = some (.int .i64 h5) := BQ.out.cell 5
  have kQ_6 : x1.cell? ⟨q_, 6, none⟩ = some (.int .u32 h6) := BQ.out.cell 6
  have kQ_7 : x1.cell? ⟨q_, 7, none⟩ = some (.int .u32 h7) := BQ.out.cell 7
  have kQ_8 : x1.cell? ⟨q_, 8, none⟩ = some (.int .u32 h8) := BQ.out.cell 8
  have kQ_9 : x1.cell? ⟨q_, 9, none⟩ = some (.int .u64 h9) := BQ.out.cell 9
  have kQ_10 : x1.cell? ⟨q_, 10, none⟩ = some (.int .u64 h10) := BQ.out.cell 10
  have kQ_11 : x1.cell? ⟨q_, 11, none⟩ = some (.int .u64 h11) := BQ.out.cell 11
  have kQ_12 : x1.cell? ⟨q_, 12, none⟩ = some (.int .u64 h12) := BQ.out.cell 12
  go_wp2_with fail
  refine (reply_ok h0 h1 h2 h3 h4 h5 h6 h7 h8 h9 h10 h11 h12 s rc tx _ HOK.out HM.out s0 s1).mono ?_
  rintro e y3 ⟨rfl, hb⟩
  clear kQ_0 kQ_1 kQ_2 kQ_3 kQ_4 kQ_5 kQ_6 kQ_7 kQ_8 kQ_9 kQ_10 kQ_11 kQ_12
  have hbx : Below x1.heap.size x1 y3 := below_via (by go_grown) hb (by first | (simp; done) | (simp; omega))
  have BQ := Lib.hid (BQ.out.stays hbx)
  have BH := Lib.hid (BH.out.stays hbx)
  have HV := Lib.hid (HV.out.stays hbx)
  have R4 := Lib.hid (R2.out.trans (hbx.mono hz_x1))
  have hz_y3 := R4.out.size
  clear hb hbx  R2 hz_x1
  have kH_0 : y3.cell? ⟨h_, 0, none⟩ = some (.int .i64 0) := BH.out.cell 0
  have kH_1 : y3.cell? ⟨h_, 1, none⟩ = some (.int .i64 0) := BH.out.cell 1
  have kH_2 : y3.cell? ⟨h_, 2, none⟩ = some (.int .i64 0) := BH.out.cell 2
  have kH_3 : y3.cell? ⟨h_, 3, none⟩ = some (.int .i64 0) := BH.out.cell 3
  have kH_4 : y3.cell? ⟨h_, 4, none⟩ = some (.int .i64 0) := BH.out.cell 4
  have kH_5 : y3.cell? ⟨h_, 5, none⟩ = some (.int .i64 0) := BH.out.cell 5
  have kH_6 : y3.cell? ⟨h_, 6, none⟩ = some (.int .u32 0) := BH.out.cell 6
  have kH_7 : y3.cell? ⟨h_, 7, none⟩ = some (.int .u32 0) := BH.out.cell 7
  have kH_8 : y3.cell? ⟨h_, 8, none⟩ = some (.int .u32 0) := BH.out.cell 8
  have kH_9 : y3.cell? ⟨h_, 9, none⟩ = some (.int .u64 0) := BH.out.cell 9
  have kH_10 : y3.cell? ⟨h_, 10, none⟩ = some (.int .u64 0) := BH.out.cell 10
  have kH_11 : y3.cell? ⟨h_, 11, none⟩ = some (.int .u64 0) := BH.out.cell 11
  have kH_12 : y3.cell? ⟨h_, 12, none⟩ = some (.int .u64 0) := BH.out.cell 12
  have fH_0 := BH.out.frozen 0
  have fH_1 := BH.out.frozen 1
  have fH_2 := BH.out.frozen 2
  have fH_3 := BH.out.frozen 3
  have fH_4 := BH.out.frozen 4
  have fH_5 := BH.out.frozen 5
  have fH_6 := BH.out.frozen 6
  have fH_7 := BH.out.frozen 7
  have fH_8 := BH.out.frozen 8
  have fH_9 := BH.out.frozen 9
  have fH_10 := BH.out.frozen 10
  have fH_11 := BH.out.frozen 11
  have fH_12 := BH.out.frozen 12
  go_upto_region 2 with fail
  clear kH_0 kH_1 kH_2 kH_3 kH_4 kH_5 kH_6 kH_7 kH_8 kH_9 kH_10 kH_11 kH_12 fH_0 fH_1 fH_2 fH_3 fH_4 fH_5 fH_6 fH_7 fH_8 fH_9 fH_10 fH_11 fH_12
  generalize ex : World.setCell _ ⟨h_, 12, none⟩ _ = x5
  have ex2 : stores y3 h_ [.int .i64 0, .int .i64 h1, .int .i64 4, .int .i64 s, .int .i64 h4, .int .i64 (-20), .int .u32 0, .int .u32 0, .int .u32 0, .int .u64 0, .int .u64 h12, .int .u64 rc, .int .u64 tx] 0 = x5 := ex
  have BQ := Lib.hid (show Blk x5 q_ 35 #[.int .i64 h0, .int .i64 h1, .int .i64 h2, .int .i64 h3, .int .i64 h4, .int .i64 h5, .int .u32 h6, .int .u32 h7, .int .u32 h8, .int .u64 h9, .int .u64 h10, .int .u64 h11, .int .u64 h12] by rw [← ex2]; exact Blk.beside (by omega) _ _ 0 BQ.out)
  have BH := Lib.hid (show Blk x5 h_ 35 #[.int .i64 0, .int .i64 h1, .int .i64 4, .int .i64 s, .int .i64 h4, .int .i64 (-20), .int .u32 0, .int .u32 0, .int .u32 0, .int .u64 0, .int .u64 h12, .int .u64 rc, .int .u64 tx] by rw [← ex2]; exact BH.out.filled _ rfl)
  have R6 := Lib.hid (show Below w.heap.size w x5 by rw [← ex2]; exact Below.stores (by omega) _ _ _ R4.out)
  have hz_x5 := R6.out.size
  clear ex ex2 R4 hz_y3
  go_wp2_with fail
  refine (cw.out _ (HVw.out.stays R6.out)).mono ?_
  rintro e y7 ⟨rfl, hb⟩
  have hbx : Below x5.heap.size x5 y7 := below_via (by go_grown) hb (by first | (simp; done) | (simp; omega))
  have BQ := Lib.hid (BQ.out.stays hbx)
  have BH := Lib.hid (BH.out.stays hbx)
  have R8 := Lib.hid (R6.out.trans (hbx.mono hz_x5))
  have hz_y7 := R8.out.size
  clear hb hbx  R6 hz_x5
  have kQ_10 : y7.cell? ⟨q_, 10, none⟩ = some (.int .u64 h10) := BQ.out.cell 10
  go_wp2_with fail
  refine (cf.out _ (HVw.out.stays R8.out)).mono ?_
  rintro e y9 ⟨rfl, hb⟩
  clear kQ_10
  have hbx : Below y7.heap.size y7 y9 := below_via (by go_grown) hb (by first | (simp; done) | (simp; omega))
  have BQ := Lib.hid (BQ.out.stays hbx)
  have BH := Lib.hid (BH.out.stays hbx)
  have R10 := Lib.hid (R8.out.trans (hbx.mono hz_y7))
  have hz_y9 := R10.out.size
  clear hb hbx  R8 hz_y7
  have kQ_10 : y9.cell? ⟨q_, 10, none⟩ = some (.int .u64 h10) := BQ.out.cell 10
  go_upto_region 12 with fail
  clear kQ_10
  have hown := World.ownsRow_lit (base := y9.heap.size) (e := 67) (size := 2) y9 #[.int .u64 rc, .int .u64 tx] 1 (Nat.le_refl _) (by decide) rfl
  have HO := Lib.hid hown
  clear hown
  have HVc := Lib.hid ((HVw.out.stays R10.out).stays (below_alloc1 _ (.cells #[.int .u64 rc, .int .u64 tx] 67)))
  go_wp2_with (at_builtin; refine wpList_append_rd rfl _ _ 28 rfl i0 _ 16 Try.underlying28 hi hz0 hz1 hz2 rfl (by decide) rfl HO.out rfl HVc.out (echC_one _) (by unfold maxLen; omega) (by omega) (by first | (simp; done) | omega) ?_)
  intro A8 c8 w8 hown8 hg8 hb8
  have o_H := BH.out.lt
  have hbx : Below y9.heap.size y9 w8 := (below_alloc1 _ _).trans hb8
  have BQ := Lib.hid (BQ.out.stays hbx)
  have BH := Lib.hid (BH.out.stays hbx)
  have RF := Lib.hid (R10.out.trans (hbx.mono hz_y9))
  have hz_w8 := RF.out.size
  have HFr : Hid (∀ x, A8 = some x → x.block ≠ h_) := by
    intro x hx e
    subst hx
    have := (hown8.lt x.block rfl).1
    omega
  have HFr2 : Hid (∀ x, A8 = some x → w.heap.size ≤ x.block) := by
    intro x hx
    subst hx
    have := (hown8.lt x.block rfl).1
    omega
  have HE := Lib.hid (own_rd hown8)
  have q3 := HE.out.2.1
  have q4 : c8 ≤ 9223372036854775807 := by have := HE.out.2.2.1; unfold maxLen at this; omega
  clear hown8 hg8 hb8 hbx HO HVc R10 hz_y9
  go_upto_region 13 with fail
  have kH_0 : w8.cell? ⟨h_, 0, none⟩ = some (.int .i64 0) := BH.out.cell 0
  have kH_1 : w8.cell? ⟨h_, 1, none⟩ = some (.int .i64 h1) := BH.out.cell 1
  have kH_2 : w8.cell? ⟨h_, 2, none⟩ = some (.int .i64 4) := BH.out.cell 2
  have kH_3 : w8.cell? ⟨h_, 3, none⟩ = some (.int .i64 s) := BH.out.cell 3
  have kH_4 : w8.cell? ⟨h_, 4, none⟩ = some (.int .i64 h4) := BH.out.cell 4
  have kH_5 : w8.cell? ⟨h_, 5, none⟩ = some (.int .i64 (-20)) := BH.out.cell 5
  have kH_6 : w8.cell? ⟨h_, 6, none⟩ = some (.int .u32 0) := BH.out.cell 6
  have kH_7 : w8.cell? ⟨h_, 7, none⟩ = some (.int .u32 0) := BH.out.cell 7
  have kH_8 : w8.cell? ⟨h_, 8, none⟩ = some (.int .u32 0) := BH.out.cell 8
  have kH_9 : w8.cell? ⟨h_, 9, none⟩ = some (.int .u64 0) := BH.out.cell 9
  have kH_10 : w8.cell? ⟨h_, 10, none⟩ = some (.int .u64 h12) := BH.out.cell 10
  have kH_11 : w8.cell? ⟨h_, 11, none⟩ = some (.int .u64 rc) := BH.out.cell 11
  have kH_12 : w8.cell? ⟨h_, 12, none⟩ = some (.int .u64 tx) := BH.out.cell 12
  have fH_0 := BH.out.frozen 0
  have fH_1 := BH.out.frozen 1
  have fH_2 := BH.out.frozen 2
  have fH_3 := BH.out.frozen 3
  have fH_4 := BH.out.frozen 4
  have fH_5 := BH.out.frozen 5
  have fH_6 := BH.out.frozen 6
  have fH_7 := BH.out.frozen 7
  have fH_8 := BH.out.frozen 8
  have fH_9 := BH.out.frozen 9
  have fH_10 := BH.out.frozen 10
  have fH_11 := BH.out.frozen 11
  have fH_12 := BH.out.frozen 12
  go_outline
  go_region
  clear kH_0 kH_1 kH_2 kH_3 kH_4 kH_5 kH_6 kH_7 kH_8 kH_9 kH_10 kH_11 kH_12 fH_0 fH_1 fH_2 fH_3 fH_4 fH_5 fH_6 fH_7 fH_8 fH_9 fH_10 fH_11 fH_12
  generalize ex : World.drew (World.setCell _ ⟨h_, 12, none⟩ _) = wd
  have ex2 : (stores w8 h_ [.int .i64 0, .int .i64 h1, .int .i64 4, .int .i64 s, .int .i64 h4, .int .i64 (-20), .int .u32 0, .int .u32 0, .int .u32 0, .int .u64 0, .int .u64 h12, .int .u64 rc, .int .u64 tx] 0).drew = wd := ex
  have D1 : Blk wd h_ 35 #[.int .i64 0, .int .i64 h1, .int .i64 4, .int .i64 s, .int .i64 h4, .int .i64 (-20), .int .u32 0, .int .u32 0, .int .u32 0, .int .u64 0, .int .u64 h12, .int .u64 rc, .int .u64 tx] := by rw [← ex2]; exact (BH.out.filled _ rfl).drew
  have RD : Below w.heap.size w wd := by rw [← ex2]; exact (Below.stores (by omega) _ _ _ RF.out).drew
  have HR : Echs wd A8 8 c8 (((rc, tx) :: l).take 8) := by rw [← ex2]; exact echs_kept HE.out HL.out (by omega) (by omega) HFr.out
  clear ex ex2
  have d1_0 : wd.cell? ⟨h_, 0, none⟩ = some (.int .i64 0) := D1.cell 0
  have d1_1 : wd.cell? ⟨h_, 1, none⟩ = some (.int .i64 h1) := D1.cell 1
  have d1_2 : wd.cell? ⟨h_, 2, none⟩ = some (.int .i64 4) := D1.cell 2
  have d1_3 : wd.cell? ⟨h_, 3, none⟩ = some (.int .i64 s) := D1.cell 3
  have d1_4 : wd.cell? ⟨h_, 4, none⟩ = some (.int .i64 h4) := D1.cell 4
  have d1_5 : wd.cell? ⟨h_, 5, none⟩ = some (.int .i64 (-20)) := D1.cell 5
  have d1_6 : wd.cell? ⟨h_, 6, none⟩ = some (.int .u32 0) := D1.cell 6
  have d1_7 : wd.cell? ⟨h_, 7, none⟩ = some (.int .u32 0) := D1.cell 7
  have d1_8 : wd.cell? ⟨h_, 8, none⟩ = some (.int .u32 0) := D1.cell 8
  have d1_9 : wd.cell? ⟨h_, 9, none⟩ = some (.int .u64 0) := D1.cell 9
  have d1_10 : wd.cell? ⟨h_, 10, none⟩ = some (.int .u64 h12) := D1.cell 10
  have d1_11 : wd.cell? ⟨h_, 11, none⟩ = some (.int .u64 rc) := D1.cell 11
  have d1_12 : wd.cell? ⟨h_, 12, none⟩ = some (.int .u64 tx) := D1.cell 12
  go_wp2_with fail
  refine bodyPost_ret (v := .tuple #[.slice A8 8 c8, .agg #[.int .i64 0, .int .i64 h1, .int .i64 4, .int .i64 s, .int .i64 h4, .int .i64 (-20), .int .u32 0, .int .u32 0, .int .u32 0, .int .u64 0, .int .u64 h12, .int .u64 rc, .int .u64 tx], .bool false, .int .i64 0]) (by simp [results, Try.results8, go_sem, *]) rfl ⟨_, _, rfl, HR, HFr2.out, RD⟩
set_option maxRecDepth 100000 in
set_option maxHeartbeats 4000000 in
theorem serve_miss_lt (A : Option Addr) (n c : Nat) (l : List (Nat × Nat)) (h0 h1 h2 h3 h4 h5 : Int) (h6 h7 h8 h9 h10 h11 h12 : Nat) (s : Int) (rc tx : Nat) (w : World) (hv : Echs w A n c l) (h : HdOk h0 h1 h2 h3 h4 h5) (hm : h2 = 3) (s0 : 0 ≤ s) (s1 : s ≤ 255) (hr : findE l rc = -1) (hn : n ≤ 7) (ho : ¬ h10 = 0) (hf : findE l h10 = -1) :
    Calls Try.prog 8 #[.slice A n c, .agg #[.int .i64 h0, .int .i64 h1, .int .i64 h2, .int .i64 h3, .int .i64 h4, .int .i64 h5, .int .u32 h6, .int .u32 h7, .int .u32 h8, .int .u64 h9, .int .u64 h10, .int .u64 h11, .int .u64 h12], .int .i64 s, .int .u64 rc, .int .u64 tx] w fun e w' =>
      ∃ A' c', e = .returned (.tuple #[.slice A' (1 + n) c', .agg #[.int .i64 0, .int .i64 h1, .int .i64 4, .int .i64 s, .int .i64 h4, .int .i64 (-20), .int .u32 0, .int .u32 0, .int .u32 0, .int .u64 0, .int .u64 h12, .int .u64 rc, .int .u64 tx], .bool false, .int .i64 0]) ∧ Echs w' A' (1 + n) c' (((rc, tx) :: l).take 8) ∧ (∀ x, A' = some x → w.heap.size ≤ x.block) ∧ Below w.heap.size w w' := by
  have HM := Lib.hid hm
  clear hm
  have q1 := hv.le
  have q2 := hv.cap
  have HOK := Lib.hid h
  have HL := Lib.hid hv.len
  clear h
  obtain ⟨i0, hi, hz0, hz1, hz2⟩ := info_parts infoEch
  have cw := Lib.hid (fun W (h : Echs W A n c l) => with_any A n c l rc W h); rw [hr] at cw
  have cf := Lib.hid (fun W (h : Echs W A n c l) => with_any A n c l h10 W h)
  rw [hf] at cf
  have ho2 : ¬ (h10 : Int) = 0 := by omega
  have hod : ((h10 : Int) != 0) = true := by simpa using ho2
  clear hf
  clear hr
  have hn8 : ¬ (n : Int) > 8 := by omega
  have hn9 : 1 + (n : Int) ≤ 8 := by omega
  have hn10 : ¬ 8 < 1 + (n : Int) := by omega
  have HV := Lib.hid hv
  have HVw := Lib.hid hv
  clear hv
  go_enter Try.func8, Try.ntmps8
  go_upto_region 1 with fail
  obtain ⟨x1, q_, h_, ex1, eq_, eh_⟩ : ∃ x1 q_ h_, x1 = (w.alloc (.cells #[.int .i64 h0, .int .i64 h1, .int .i64 h2, .int .i64 h3, .int .i64 h4, .int .i64 h5, .int .u32 h6, .int .u32 h7, .int .u32 h8, .int .u64 h9, .int .u64 h10, .int .u64 h11, .int .u64 h12] 35)).alloc (.cells #[.int .i64 0, .int .i64 0, .int .i64 0, .int .i64 0, .int .i64 0, .int .i64 0, .int .u32 0, .int .u32 0, .int .u32 0, .int .u64 0, .int .u64 0, .int .u64 0, .int .u64 0] 35) ∧ q_ = w.heap.size ∧ h_ = w.heap.size + 1 := ⟨_, _, _, rfl, rfl, rfl⟩
  rw [← ex1, ← eh_, ← eq_]
  have hbx : Below w.heap.size w x1 := by rw [ex1]; exact below_alloc2 _ _ _ 
  have o_Q_H : q_ < h_ := by omega
  have g_Q : w.heap.size ≤ q_ := by rw [eq_]; exact Nat.le_refl _
  have HV := Lib.hid (HV.out.stays hbx)
  have BQ := Lib.hid (show Blk x1 q_ 35 #[.int .i64 h0, .int .i64 h1, .int .i64 h2, .int .i64 h3, .int .i64 h4, .int .i64 h5, .int .u32 h6, .int .u32 h7, .int .u32 h8, .int .u64 h9, .int .u64 h10, .int .u64 h11, .int .u64 h12] by rw [ex1, eq_]; exact blk_new2_0 _ _ _ _ _ )
  have BH := Lib.hid (show Blk x1 h_ 35 #[.int .i64 0, .int .i64 0, .int .i64 0, .int .i64 0, .int .i64 0, .int .i64 0, .int .u32 0, .int .u32 0, .int .u32 0, .int .u64 0, .int .u64 0, .int .u64 0, .int .u64 0] by rw [ex1, eh_]; exact blk_new2_1 _ _ _ _ _ )
  have R2 := Lib.hid hbx
  have hz_x1 := R2.out.size
  clear hbx ex1 eq_ eh_
  have kQ_0 : x1.cell? ⟨q_, 0, none⟩ = some (.int .i64 h0) := BQ.out.cell 0
  have kQ_1 : x1.cell? ⟨q_, 1, none⟩ = some (.int .i64 h1) := BQ.out.cell 1
  have kQ_2 : x1.cell? ⟨q_, 2, none⟩ = some (.int .i64 h2) := BQ.out.cell 2
  have kQ_3 : x1.cell? ⟨q_, 3, none⟩ = some (.int .i64 h3) := BQ.out.cell 3
  have kQ_4 : x1.cell? ⟨q_, 4, none⟩ = some (.int .i64 h4) := BQ.out.cell 4
  have kQ_5 : x1.cell? ⟨q_, 5, none⟩ = some (.int .i64 h5) := BQ.out.cell 5
  have kQ_6 : x1.cell? ⟨q_, 6, none⟩ = some (.int .u32 h6) := BQ.out.cell 6
  have kQ_7 : x1.cell? ⟨q_, 7, none⟩ = some (.int .u32 h7) := BQ.out.cell 7
  have kQ_8 : x1.cell? ⟨q_, 8, none⟩ = some (.int .u32 h8) := BQ.out.cell 8
  have kQ_9 : x1.cell? ⟨q_, 9, none⟩ = some (.int .u64 h9) := BQ.out.cell 9
  have kQ_10 : x1.cell? ⟨q_, 10, none⟩ = some (.int .u64 h10) := BQ.out.cell 10
  have kQ_11 : x1.cell? ⟨q_, 11, none⟩ = some (.int .u64 h11) := BQ.out.cell 11
  have kQ_12 : x1.cell? ⟨q_, 12, none⟩ = some (.int .u64 h12) := BQ.out.cell 12
  go_wp2_with fail
  refine (reply_ok h0 h1 h2 h3 h4 h5 h6 h7 h8 h9 h10 h11 h12 s rc tx _ HOK.out HM.out s0 s1).mono ?_
  rintro e y3 ⟨rfl, hb⟩
  clear kQ_0 kQ_1 kQ_2 kQ_3 kQ_4 kQ_5 kQ_6 kQ_7 kQ_8 kQ_9 kQ_10 kQ_11 kQ_12
  have hbx : Below x1.heap.size x1 y3 := below_via (by go_grown) hb (by first | (simp; done) | (simp; omega))
  have BQ := Lib.hid (BQ.out.stays hbx)
  have BH := Lib.hid (BH.out.stays hbx)
  have HV := Lib.hid (HV.out.stays hbx)
  have R4 := Lib.hid (R2.out.trans (hbx.mono hz_x1))
  have hz_y3 := R4.out.size
  clear hb hbx  R2 hz_x1
  have kH_0 : y3.cell? ⟨h_, 0, none⟩ = some (.int .i64 0) := BH.out.cell 0
  have kH_1 : y3.cell? ⟨h_, 1, none⟩ = some (.int .i64 0) := BH.out.cell 1
  have kH_2 : y3.cell? ⟨h_, 2, none⟩ = some (.int .i64 0) := BH.out.cell 2
  have kH_3 : y3.cell? ⟨h_, 3, none⟩ = some (.int .i64 0) := BH.out.cell 3
  have kH_4 : y3.cell? ⟨h_, 4, none⟩ = some (.int .i64 0) := BH.out.cell 4
  have kH_5 : y3.cell? ⟨h_, 5, none⟩ = some (.int .i64 0) := BH.out.cell 5
  have kH_6 : y3.cell? ⟨h_, 6, none⟩ = some (.int .u32 0) := BH.out.cell 6
  have kH_7 : y3.cell? ⟨h_, 7, none⟩ = some (.int .u32 0) := BH.out.cell 7
  have kH_8 : y3.cell? ⟨h_, 8, none⟩ = some (.int .u32 0) := BH.out.cell 8
  have kH_9 : y3.cell? ⟨h_, 9, none⟩ = some (.int .u64 0) := BH.out.cell 9
  have kH_10 : y3.cell? ⟨h_, 10, none⟩ = some (.int .u64 0) := BH.out.cell 10
  have kH_11 : y3.cell? ⟨h_, 11, none⟩ = some (.int .u64 0) := BH.out.cell 11
  have kH_12 : y3.cell? ⟨h_, 12, none⟩ = some (.int .u64 0) := BH.out.cell 12
  have fH_0 := BH.out.frozen 0
  have fH_1 := BH.out.frozen 1
  have fH_2 := BH.out.frozen 2
  have fH_3 := BH.out.frozen 3
  have fH_4 := BH.out.frozen 4
  have fH_5 := BH.out.frozen 5
  have fH_6 := BH.out.frozen 6
  have fH_7 := BH.out.frozen 7
  have fH_8 := BH.out.frozen 8
  have fH_9 := BH.out.frozen 9
  have fH_10 := BH.out.frozen 10
  have fH_11 := BH.out.frozen 11
  have fH_12 := BH.out.frozen 12
  go_upto_region 2 with fail
  clear kH_0 kH_1 kH_2 kH_3 kH_4 kH_5 kH_6 kH_7 kH_8 kH_9 kH_10 kH_11 kH_12 fH_0 fH_1 fH_2 fH_3 fH_4 fH_5 fH_6 fH_7 fH_8 fH_9 fH_10 fH_11 fH_12
  generalize ex : World.setCell _ ⟨h_, 12, none⟩ _ = x5
  have ex2 : stores y3 h_ [.int .i64 0, .int .i64 h1, .int .i64 4, .int .i64 s, .int .i64 h4, .int .i64 (-20), .int .u32 0, .int .u32 0, .int .u32 0, .int .u64 0, .int .u64 h12, .int .u64 rc, .int .u64 tx] 0 = x5 := ex
  have BQ := Lib.hid (show Blk x5 q_ 35 #[.int .i64 h0, .int .i64 h1, .int .i64 h2, .int .i64 h3, .int .i64 h4, .int .i64 h5, .int .u32 h6, .int .u32 h7, .int .u32 h8, .int .u64 h9, .int .u64 h10, .int .u64 h11, .int .u64 h12] by rw [← ex2]; exact Blk.beside (by omega) _ _ 0 BQ.out)
  have BH := Lib.hid (show Blk x5 h_ 35 #[.int .i64 0, .int .i64 h1, .int .i64 4, .int .i64 s, .int .i64 h4, .int .i64 (-20), .int .u32 0, .int .u32 0, .int .u32 0, .int .u64 0, .int .u64 h12, .int .u64 rc, .int .u64 tx] by rw [← ex2]; exact BH.out.filled _ rfl)
  have R6 := Lib.hid (show Below w.heap.size w x5 by rw [← ex2]; exact Below.stores (by omega) _ _ _ R4.out)
  have hz_x5 := R6.out.size
  clear ex ex2 R4 hz_y3
  go_wp2_with fail
  refine (cw.out _ (HVw.out.stays R6.out)).mono ?_
  rintro e y7 ⟨rfl, hb⟩
  have hbx : Below x5.heap.size x5 y7 := below_via (by go_grown) hb (by first | (simp; done) | (simp; omega))
  have BQ := Lib.hid (BQ.out.stays hbx)
  have BH := Lib.hid (BH.out.stays hbx)
  have R8 := Lib.hid (R6.out.trans (hbx.mono hz_x5))
  have hz_y7 := R8.out.size
  clear hb hbx  R6 hz_x5
  have kQ_10 : y7.cell? ⟨q_, 10, none⟩ = some (.int .u64 h10) := BQ.out.cell 10
  go_wp2_with fail
  refine (cf.out _ (HVw.out.stays R8.out)).mono ?_
  rintro e y9 ⟨rfl, hb⟩
  clear kQ_10
  have hbx : Below y7.heap.size y7 y9 := below_via (by go_grown) hb (by first | (simp; done) | (simp; omega))
  have BQ := Lib.hid (BQ.out.stays hbx)
  have BH := Lib.hid (BH.out.stays hbx)
  have R10 := Lib.hid (R8.out.trans (hbx.mono hz_y7))
  have hz_y9 := R10.out.size
  clear hb hbx  R8 hz_y7
  have kQ_10 : y9.cell? ⟨q_, 10, none⟩ = some (.int .u64 h10) := BQ.out.cell 10
  go_upto_region 12 with fail
  clear kQ_10
  have hown := World.ownsRow_lit (base := y9.heap.size) (e := 67) (size := 2) y9 #[.int .u64 rc, .int .u64 tx] 1 (Nat.le_refl _) (by decide) rfl
  have HO := Lib.hid hown
  clear hown
  have HVc := Lib.hid ((HVw.out.stays R10.out).stays (below_alloc1 _ (.cells #[.int .u64 rc, .int .u64 tx] 67)))
  go_wp2_with (at_builtin; refine wpList_append_rd rfl _ _ 28 rfl i0 _ 16 Try.underlying28 hi hz0 hz1 hz2 rfl (by decide) rfl HO.out rfl HVc.out (echC_one _) (by unfold maxLen; omega) (by omega) (by first | (simp; done) | omega) ?_)
  intro A8 c8 w8 hown8 hg8 hb8
  have o_H := BH.out.lt
  have hbx : Below y9.heap.size y9 w8 := (below_alloc1 _ _).trans hb8
  have BQ := Lib.hid (BQ.out.stays hbx)
  have BH := Lib.hid (BH.out.stays hbx)
  have RF := Lib.hid (R10.out.trans (hbx.mono hz_y9))
  have hz_w8 := RF.out.size
  have HFr : Hid (∀ x, A8 = some x → x.block ≠ h_) := by
    intro x hx e
    subst hx
    have := (hown8.lt x.block rfl).1
    omega
  have HFr2 : Hid (∀ x, A8 = some x → w.heap.size ≤ x.block) := by
    intro x hx
    subst hx
    have := (hown8.lt x.block rfl).1
    omega
  have HE := Lib.hid (own_rd hown8)
  have q3 := HE.out.2.1
  have q4 : c8 ≤ 9223372036854775807 := by have := HE.out.2.2.1; unfold maxLen at this; omega
  clear hown8 hg8 hb8 hbx HO HVc R10 hz_y9
  go_upto_region 13 with fail
  have kH_0 : w8.cell? ⟨h_, 0, none⟩ = some (.int .i64 0) := BH.out.cell 0
  have kH_1 : w8.cell? ⟨h_, 1, none⟩ = some (.int .i64 h1) := BH.out.cell 1
  have kH_2 : w8.cell? ⟨h_, 2, none⟩ = some (.int .i64 4) := BH.out.cell 2
  have kH_3 : w8.cell? ⟨h_, 3, none⟩ = some (.int .i64 s) := BH.out.cell 3
  have kH_4 : w8.cell? ⟨h_, 4, none⟩ = some (.int .i64 h4) := BH.out.cell 4
  have kH_5 : w8.cell? ⟨h_, 5, none⟩ = some (.int .i64 (-20)) := BH.out.cell 5
  have kH_6 : w8.cell? ⟨h_, 6, none⟩ = some (.int .u32 0) := BH.out.cell 6
  have kH_7 : w8.cell? ⟨h_, 7, none⟩ = some (.int .u32 0) := BH.out.cell 7
  have kH_8 : w8.cell? ⟨h_, 8, none⟩ = some (.int .u32 0) := BH.out.cell 8
  have kH_9 : w8.cell? ⟨h_, 9, none⟩ = some (.int .u64 0) := BH.out.cell 9
  have kH_10 : w8.cell? ⟨h_, 10, none⟩ = some (.int .u64 h12) := BH.out.cell 10
  have kH_11 : w8.cell? ⟨h_, 11, none⟩ = some (.int .u64 rc) := BH.out.cell 11
  have kH_12 : w8.cell? ⟨h_, 12, none⟩ = some (.int .u64 tx) := BH.out.cell 12
  have fH_0 := BH.out.frozen 0
  have fH_1 := BH.out.frozen 1
  have fH_2 := BH.out.frozen 2
  have fH_3 := BH.out.frozen 3
  have fH_4 := BH.out.frozen 4
  have fH_5 := BH.out.frozen 5
  have fH_6 := BH.out.frozen 6
  have fH_7 := BH.out.frozen 7
  have fH_8 := BH.out.frozen 8
  have fH_9 := BH.out.frozen 9
  have fH_10 := BH.out.frozen 10
  have fH_11 := BH.out.frozen 11
  have fH_12 := BH.out.frozen 12
  go_outline
  go_region
  clear kH_0 kH_1 kH_2 kH_3 kH_4 kH_5 kH_6 kH_7 kH_8 kH_9 kH_10 kH_11 kH_12 fH_0 fH_1 fH_2 fH_3 fH_4 fH_5 fH_6 fH_7 fH_8 fH_9 fH_10 fH_11 fH_12
  generalize ex : World.drew (World.setCell _ ⟨h_, 12, none⟩ _) = wd
  have ex2 : (stores w8 h_ [.int .i64 0, .int .i64 h1, .int .i64 4, .int .i64 s, .int .i64 h4, .int .i64 (-20), .int .u32 0, .int .u32 0, .int .u32 0, .int .u64 0, .int .u64 h12, .int .u64 rc, .int .u64 tx] 0).drew = wd := ex
  have D1 : Blk wd h_ 35 #[.int .i64 0, .int .i64 h1, .int .i64 4, .int .i64 s, .int .i64 h4, .int .i64 (-20), .int .u32 0, .int .u32 0, .int .u32 0, .int .u64 0, .int .u64 h12, .int .u64 rc, .int .u64 tx] := by rw [← ex2]; exact (BH.out.filled _ rfl).drew
  have RD : Below w.heap.size w wd := by rw [← ex2]; exact (Below.stores (by omega) _ _ _ RF.out).drew
  have HR : Echs wd A8 (1 + n) c8 (((rc, tx) :: l).take 8) := by rw [← ex2]; exact echs_kept HE.out HL.out (by omega) (by omega) HFr.out
  clear ex ex2
  have d1_0 : wd.cell? ⟨h_, 0, none⟩ = some (.int .i64 0) := D1.cell 0
  have d1_1 : wd.cell? ⟨h_, 1, none⟩ = some (.int .i64 h1) := D1.cell 1
  have d1_2 : wd.cell? ⟨h_, 2, none⟩ = some (.int .i64 4) := D1.cell 2
  have d1_3 : wd.cell? ⟨h_, 3, none⟩ = some (.int .i64 s) := D1.cell 3
  have d1_4 : wd.cell? ⟨h_, 4, none⟩ = some (.int .i64 h4) := D1.cell 4
  have d1_5 : wd.cell? ⟨h_, 5, none⟩ = some (.int .i64 (-20)) := D1.cell 5
  have d1_6 : wd.cell? ⟨h_, 6, none⟩ = some (.int .u32 0) := D1.cell 6
  have d1_7 : wd.cell? ⟨h_, 7, none⟩ = some (.int .u32 0) := D1.cell 7
  have d1_8 : wd.cell? ⟨h_, 8, none⟩ = some (.int .u32 0) := D1.cell 8
  have d1_9 : wd.cell? ⟨h_, 9, none⟩ = some (.int .u64 0) := D1.cell 9
  have d1_10 : wd.cell? ⟨h_, 10, none⟩ = some (.int .u64 h12) := D1.cell 10
  have d1_11 : wd.cell? ⟨h_, 11, none⟩ = some (.int .u64 rc) := D1.cell 11
  have d1_12 : wd.cell? ⟨h_, 12, none⟩ = some (.int .u64 tx) := D1.cell 12
  go_wp2_with fail
  refine bodyPost_ret (v := .tuple #[.slice A8 (1 + n) c8, .agg #[.int .i64 0, .int .i64 h1, .int .i64 4, .int .i64 s, .int .i64 h4, .int .i64 (-20), .int .u32 0, .int .u32 0, .int .u32 0, .int .u64 0, .int .u64 h12, .int .u64 rc, .int .u64 tx], .bool false, .int .i64 0]) (by simp [results, Try.results8, go_sem, *]) rfl ⟨_, _, rfl, HR, HFr2.out, RD⟩
set_option maxRecDepth 100000 in
set_option maxHeartbeats 4000000 in
theorem serve_miss_full (A : Option Addr) (n c : Nat) (l : List (Nat × Nat)) (h0 h1 h2 h3 h4 h5 : Int) (h6 h7 h8 h9 h10 h11 h12 : Nat) (s : Int) (rc tx : Nat) (w : World) (hv : Echs w A n c l) (h : HdOk h0 h1 h2 h3 h4 h5) (hm : h2 = 3) (s0 : 0 ≤ s) (s1 : s ≤ 255) (hr : findE l rc = -1) (hn : n = 8) (ho : ¬ h10 = 0) (hf : findE l h10 = -1) :
    Calls Try.prog 8 #[.slice A n c, .agg #[.int .i64 h0, .int .i64 h1, .int .i64 h2, .int .i64 h3, .int .i64 h4, .int .i64 h5, .int .u32 h6, .int .u32 h7, .int .u32 h8, .int .u64 h9, .int .u64 h10, .int .u64 h11, .int .u64 h12], .int .i64 s, .int .u64 rc, .int .u64 tx] w fun e w' =>
      ∃ A' c', e = .returned (.tuple #[.slice A' 8 c', .agg #[.int .i64 0, .int .i64 h1, .int .i64 4, .int .i64 s, .int .i64 h4, .int .i64 (-20), .int .u32 0, .int .u32 0, .int .u32 0, .int .u64 0, .int .u64 h12, .int .u64 rc, .int .u64 tx], .bool false, .int .i64 0]) ∧ Echs w' A' 8 c' (((rc, tx) :: l).take 8) ∧ (∀ x, A' = some x → w.heap.size ≤ x.block) ∧ Below w.heap.size w w' := by
  subst hn
  have HM := Lib.hid hm
  clear hm
  have q1 := hv.le
  have q2 := hv.cap
  have HOK := Lib.hid h
  have HL := Lib.hid hv.len
  clear h
  obtain ⟨i0, hi, hz0, hz1, hz2⟩ := info_parts infoEch
  have cw := Lib.hid (fun W (h : Echs W A 8 c l) => with_any A 8 c l rc W h); rw [hr] at cw
  have cf := Lib.hid (fun W (h : Echs W A 8 c l) => with_any A 8 c l h10 W h)
  rw [hf] at cf
  have ho2 : ¬ (h10 : Int) = 0 := by omega
  have hod : ((h10 : Int) != 0) = true := by simpa using ho2
  clear hf
  clear hr
  have HV := Lib.hid hv
  have HVw := Lib.hid hv
  clear hv
  go_enter Try.func8, Try.ntmps8
  go_upto_region 1 with fail
  obtain ⟨x1, q_, h_, ex1, eq_, eh_⟩ : ∃ x1 q_ h_, x1 = (w.alloc (.cells #[.int .i64 h0, .int .i64 h1, .int .i64 h2, .int .i64 h3, .int .i64 h4, .int .i64 h5, .int .u32 h6, .int .u32 h7, .int .u32 h8, .int .u64 h9, .int .u64 h10, .int .u64 h11, .int .u64 h12] 35)).alloc (.cells #[.int .i64 0, .int .i64 0, .int .i64 0, .int .i64 0, .int .i64 0, .int .i64 0, .int .u32 0, .int .u32 0, .int .u32 0, .int .u64 0, .int .u64 0, .int .u64 0, .int .u64 0] 35) ∧ q_ = w.heap.size ∧ h_ = w.heap.size + 1 := ⟨_, _, _, rfl, rfl, rfl⟩
  rw [← ex1, ← eh_, ← eq_]
  have hbx : Below w.heap.size w x1 := by rw [ex1]; exact below_alloc2 _ _ _ 
  have o_Q_H : q_ < h_ := by omega
  have g_Q : w.heap.size ≤ q_ := by rw [eq_]; exact Nat.le_refl _
  have HV := Lib.hid (HV.out.stays hbx)
  have BQ := Lib.hid (show Blk x1 q_ 35 #[.int .i64 h0, .int .i64 h1, .int .i64 h2, .int .i64 h3, .int .i64 h4, .int .i64 h5, .int .u32 h6, .int .u32 h7, .int .u32 h8, .int .u64 h9, .int .u64 h10, .int .u64 h11, .int .u64 h12] by rw [ex1, eq_]; exact blk_new2_0 _ _ _ _ _ )
  have BH := Lib.hid (show Blk x1 h_ 35 #[.int .i64 0, .int .i64 0, .int .i64 0, .int .i64 0, .int .i64 0, .int .i64 0, .int .u32 0, .int .u32 0, .int .u32 0, .int .u64 0, .int .u64 0, .int .u64 0, .int .u64 0] by rw [ex1, eh_]; exact blk_new2_1 _ _ _ _ _ )
  have R2 := Lib.hid hbx
  have hz_x1 := R2.out.size
  clear hbx ex1 eq_ eh_
  have kQ_0 : x1.cell? ⟨q_, 0, none⟩ = some (.int .i64 h0) := BQ.out.cell 0
  have kQ_1 : x1.cell? ⟨q_, 1, none⟩ = some (.int .i64 h1) := BQ.out.cell 1
  have kQ_2 : x1.cell? ⟨q_, 2, none⟩ = some (.int .i64 h2) := BQ.out.cell 2
  have kQ_3 : x1.cell? ⟨q_, 3, none⟩ = some (.int .i64 h3) := BQ.out.cell 3
  have kQ_4 : x1.cell? ⟨q_, 4, none⟩ = some (.int .i64 h4) := BQ.out.cell 4
  have kQ_5 : x1.cell? ⟨q_, 5, none⟩ = some (.int .i64 h5) := BQ.out.cell 5
  have kQ_6 : x1.cell? ⟨q_, 6, none⟩ = some (.int .u32 h6) := BQ.out.cell 6
  have kQ_7 : x1.cell? ⟨q_, 7, none⟩ = some (.int .u32 h7) := BQ.out.cell 7
  have kQ_8 : x1.cell? ⟨q_, 8, none⟩ = some (.int .u32 h8) := BQ.out.cell 8
  have kQ_9 : x1.cell? ⟨q_, 9, none⟩ = some (.int .u64 h9) := BQ.out.cell 9
  have kQ_10 : x1.cell? ⟨q_, 10, none⟩ = some (.int .u64 h10) := BQ.out.cell 10
  have kQ_11 : x1.cell? ⟨q_, 11, none⟩ = some (.int .u64 h11) := BQ.out.cell 11
  have kQ_12 : x1.cell? ⟨q_, 12, none⟩ = some (.int .u64 h12) := BQ.out.cell 12
  go_wp2_with fail
  refine (reply_ok h0 h1 h2 h3 h4 h5 h6 h7 h8 h9 h10 h11 h12 s rc tx _ HOK.out HM.out s0 s1).mono ?_
  rintro e y3 ⟨rfl, hb⟩
  clear kQ_0 kQ_1 kQ_2 kQ_3 kQ_4 kQ_5 kQ_6 kQ_7 kQ_8 kQ_9 kQ_10 kQ_11 kQ_12
  have hbx : Below x1.heap.size x1 y3 := below_via (by go_grown) hb (by first | (simp; done) | (simp; omega))
  have BQ := Lib.hid (BQ.out.stays hbx)
  have BH := Lib.hid (BH.out.stays hbx)
  have HV := Lib.hid (HV.out.stays hbx)
  have R4 := Lib.hid (R2.out.trans (hbx.mono hz_x1))
  have hz_y3 := R4.out.size
  clear hb hbx  R2 hz_x1
  have kH_0 : y3.cell? ⟨h_, 0, none⟩ = some (.int .i64 0) := BH.out.cell 0
  have kH_1 : y3.cell? ⟨h_, 1, none⟩ = some (.int .i64 0) := BH.out.cell 1
  have kH_2 : y3.cell? ⟨h_, 2, none⟩ = some (.int .i64 0) := BH.out.cell 2
  have kH_3 : y3.cell? ⟨h_, 3, none⟩ = some (.int .i64 0) := BH.out.cell 3
  have kH_4 : y3.cell? ⟨h_, 4, none⟩ = some (.int .i64 0) := BH.out.cell 4
  have kH_5 : y3.cell? ⟨h_, 5, none⟩ = some (.int .i64 0) := BH.out.cell 5
  have kH_6 : y3.cell? ⟨h_, 6, none⟩ = some (.int .u32 0) := BH.out.cell 6
  have kH_7 : y3.cell? ⟨h_, 7, none⟩ = some (.int .u32 0) := BH.out.cell 7
  have kH_8 : y3.cell? ⟨h_, 8, none⟩ = some (.int .u32 0) := BH.out.cell 8
  have kH_9 : y3.cell? ⟨h_, 9, none⟩ = some (.int .u64 0) := BH.out.cell 9
  have kH_10 : y3.cell? ⟨h_, 10, none⟩ = some (.int .u64 0) := BH.out.cell 10
  have kH_11 : y3.cell? ⟨h_, 11, none⟩ = some (.int .u64 0) := BH.out.cell 11
  have kH_12 : y3.cell? ⟨h_, 12, none⟩ = some (.int .u64 0) := BH.out.cell 12
  have fH_0 := BH.out.frozen 0
  have fH_1 := BH.out.frozen 1
  have fH_2 := BH.out.frozen 2
  have fH_3 := BH.out.frozen 3
  have fH_4 := BH.out.frozen 4
  have fH_5 := BH.out.frozen 5
  have fH_6 := BH.out.frozen 6
  have fH_7 := BH.out.frozen 7
  have fH_8 := BH.out.frozen 8
  have fH_9 := BH.out.frozen 9
  have fH_10 := BH.out.frozen 10
  have fH_11 := BH.out.frozen 11
  have fH_12 := BH.out.frozen 12
  go_upto_region 2 with fail
  clear kH_0 kH_1 kH_2 kH_3 kH_4 kH_5 kH_6 kH_7 kH_8 kH_9 kH_10 kH_11 kH_12 fH_0 fH_1 fH_2 fH_3 fH_4 fH_5 fH_6 fH_7 fH_8 fH_9 fH_10 fH_11 fH_12
  generalize ex : World.setCell _ ⟨h_, 12, none⟩ _ = x5
  have ex2 : stores y3 h_ [.int .i64 0, .int .i64 h1, .int .i64 4, .int .i64 s, .int .i64 h4, .int .i64 (-20), .int .u32 0, .int .u32 0, .int .u32 0, .int .u64 0, .int .u64 h12, .int .u64 rc, .int .u64 tx] 0 = x5 := ex
  have BQ := Lib.hid (show Blk x5 q_ 35 #[.int .i64 h0, .int .i64 h1, .int .i64 h2, .int .i64 h3, .int .i64 h4, .int .i64 h5, .int .u32 h6, .int .u32 h7, .int .u32 h8, .int .u64 h9, .int .u64 h10, .int .u64 h11, .int .u64 h12] by rw [← ex2]; exact Blk.beside (by omega) _ _ 0 BQ.out)
  have BH := Lib.hid (show Blk x5 h_ 35 #[.int .i64 0, .int .i64 h1, .int .i64 4, .int .i64 s, .int .i64 h4, .int .i64 (-20), .int .u32 0, .int .u32 0, .int .u32 0, .int .u64 0, .int .u64 h12, .int .u64 rc, .int .u64 tx] by rw [← ex2]; exact BH.out.filled _ rfl)
  have R6 := Lib.hid (show Below w.heap.size w x5 by rw [← ex2]; exact Below.stores (by omega) _ _ _ R4.out)
  have hz_x5 := R6.out.size
  clear ex ex2 R4 hz_y3
  go_wp2_with fail
  refine (cw.out _ (HVw.out.stays R6.out)).mono ?_
  rintro e y7 ⟨rfl, hb⟩
  have hbx : Below x5.heap.size x5 y7 := below_via (by go_grown) hb (by first | (simp; done) | (simp; omega))
  have BQ := Lib.hid (BQ.out.stays hbx)
  have BH := Lib.hid (BH.out.stays hbx)
  have R8 := Lib.hid (R6.out.trans (hbx.mono hz_x5))
  have hz_y7 := R8.out.size
  clear hb hbx  R6 hz_x5
  have kQ_10 : y7.cell? ⟨q_, 10, none⟩ = some (.int .u64 h10) := BQ.out.cell 10
  go_wp2_with fail
  refine (cf.out _ (HVw.out.stays R8.out)).mono ?_
  rintro e y9 ⟨rfl, hb⟩
  clear kQ_10
  have hbx : Below y7.heap.size y7 y9 := below_via (by go_grown) hb (by first | (simp; done) | (simp; omega))
  have BQ := Lib.hid (BQ.out.stays hbx)
  have BH := Lib.hid (BH.out.stays hbx)
  have R10 := Lib.hid (R8.out.trans (hbx.mono hz_y7))
  have hz_y9 := R10.out.size
  clear hb hbx  R8 hz_y7
  have kQ_10 : y9.cell? ⟨q_, 10, none⟩ = some (.int .u64 h10) := BQ.out.cell 10
  go_upto_region 12 with fail
  clear kQ_10
  have hown := World.ownsRow_lit (base := y9.heap.size) (e := 67) (size := 2) y9 #[.int .u64 rc, .int .u64 tx] 1 (Nat.le_refl _) (by decide) rfl
  have HO := Lib.hid hown
  clear hown
  have HVc := Lib.hid ((HVw.out.stays R10.out).stays (below_alloc1 _ (.cells #[.int .u64 rc, .int .u64 tx] 67)))
  go_wp2_with (at_builtin; refine wpList_append_rd rfl _ _ 28 rfl i0 _ 16 Try.underlying28 hi hz0 hz1 hz2 rfl (by decide) rfl HO.out rfl HVc.out (echC_one _) (by unfold maxLen; omega) (by omega) (by first | (simp; done) | omega) ?_)
  intro A8 c8 w8 hown8 hg8 hb8
  have o_H := BH.out.lt
  have hbx : Below y9.heap.size y9 w8 := (below_alloc1 _ _).trans hb8
  have BQ := Lib.hid (BQ.out.stays hbx)
  have BH := Lib.hid (BH.out.stays hbx)
  have RF := Lib.hid (R10.out.trans (hbx.mono hz_y9))
  have hz_w8 := RF.out.size
  have HFr : Hid (∀ x, A8 = some x → x.block ≠ h_) := by
    intro x hx e
    subst hx
    have := (hown8.lt x.block rfl).1
    omega
  have HFr2 : Hid (∀ x, A8 = some x → w.heap.size ≤ x.block) := by
    intro x hx
    subst hx
    have := (hown8.lt x.block rfl).1
    omega
  have HE := Lib.hid (own_rd hown8)
  have q3 := HE.out.2.1
  have q4 : c8 ≤ 9223372036854775807 := by have := HE.out.2.2.1; unfold maxLen at this; omega
  clear hown8 hg8 hb8 hbx HO HVc R10 hz_y9
  go_upto_region 13 with fail
  have kH_0 : w8.cell? ⟨h_, 0, none⟩ = some (.int .i64 0) := BH.out.cell 0
  have kH_1 : w8.cell? ⟨h_, 1, none⟩ = some (.int .i64 h1) := BH.out.cell 1
  have kH_2 : w8.cell? ⟨h_, 2, none⟩ = some (.int .i64 4) := BH.out.cell 2
  have kH_3 : w8.cell? ⟨h_, 3, none⟩ = some (.int .i64 s) := BH.out.cell 3
  have kH_4 : w8.cell? ⟨h_, 4, none⟩ = some (.int .i64 h4) := BH.out.cell 4
  have kH_5 : w8.cell? ⟨h_, 5, none⟩ = some (.int .i64 (-20)) := BH.out.cell 5
  have kH_6 : w8.cell? ⟨h_, 6, none⟩ = some (.int .u32 0) := BH.out.cell 6
  have kH_7 : w8.cell? ⟨h_, 7, none⟩ = some (.int .u32 0) := BH.out.cell 7
  have kH_8 : w8.cell? ⟨h_, 8, none⟩ = some (.int .u32 0) := BH.out.cell 8
  have kH_9 : w8.cell? ⟨h_, 9, none⟩ = some (.int .u64 0) := BH.out.cell 9
  have kH_10 : w8.cell? ⟨h_, 10, none⟩ = some (.int .u64 h12) := BH.out.cell 10
  have kH_11 : w8.cell? ⟨h_, 11, none⟩ = some (.int .u64 rc) := BH.out.cell 11
  have kH_12 : w8.cell? ⟨h_, 12, none⟩ = some (.int .u64 tx) := BH.out.cell 12
  have fH_0 := BH.out.frozen 0
  have fH_1 := BH.out.frozen 1
  have fH_2 := BH.out.frozen 2
  have fH_3 := BH.out.frozen 3
  have fH_4 := BH.out.frozen 4
  have fH_5 := BH.out.frozen 5
  have fH_6 := BH.out.frozen 6
  have fH_7 := BH.out.frozen 7
  have fH_8 := BH.out.frozen 8
  have fH_9 := BH.out.frozen 9
  have fH_10 := BH.out.frozen 10
  have fH_11 := BH.out.frozen 11
  have fH_12 := BH.out.frozen 12
  go_outline
  go_region
  clear kH_0 kH_1 kH_2 kH_3 kH_4 kH_5 kH_6 kH_7 kH_8 kH_9 kH_10 kH_11 kH_12 fH_0 fH_1 fH_2 fH_3 fH_4 fH_5 fH_6 fH_7 fH_8 fH_9 fH_10 fH_11 fH_12
  generalize ex : World.drew (World.setCell _ ⟨h_, 12, none⟩ _) = wd
  have ex2 : (stores w8 h_ [.int .i64 0, .int .i64 h1, .int .i64 4, .int .i64 s, .int .i64 h4, .int .i64 (-20), .int .u32 0, .int .u32 0, .int .u32 0, .int .u64 0, .int .u64 h12, .int .u64 rc, .int .u64 tx] 0).drew = wd := ex
  have D1 : Blk wd h_ 35 #[.int .i64 0, .int .i64 h1, .int .i64 4, .int .i64 s, .int .i64 h4, .int .i64 (-20), .int .u32 0, .int .u32 0, .int .u32 0, .int .u64 0, .int .u64 h12, .int .u64 rc, .int .u64 tx] := by rw [← ex2]; exact (BH.out.filled _ rfl).drew
  have RD : Below w.heap.size w wd := by rw [← ex2]; exact (Below.stores (by omega) _ _ _ RF.out).drew
  have HR : Echs wd A8 8 c8 (((rc, tx) :: l).take 8) := by rw [← ex2]; exact echs_kept HE.out HL.out (by omega) (by omega) HFr.out
  clear ex ex2
  have d1_0 : wd.cell? ⟨h_, 0, none⟩ = some (.int .i64 0) := D1.cell 0
  have d1_1 : wd.cell? ⟨h_, 1, none⟩ = some (.int .i64 h1) := D1.cell 1
  have d1_2 : wd.cell? ⟨h_, 2, none⟩ = some (.int .i64 4) := D1.cell 2
  have d1_3 : wd.cell? ⟨h_, 3, none⟩ = some (.int .i64 s) := D1.cell 3
  have d1_4 : wd.cell? ⟨h_, 4, none⟩ = some (.int .i64 h4) := D1.cell 4
  have d1_5 : wd.cell? ⟨h_, 5, none⟩ = some (.int .i64 (-20)) := D1.cell 5
  have d1_6 : wd.cell? ⟨h_, 6, none⟩ = some (.int .u32 0) := D1.cell 6
  have d1_7 : wd.cell? ⟨h_, 7, none⟩ = some (.int .u32 0) := D1.cell 7
  have d1_8 : wd.cell? ⟨h_, 8, none⟩ = some (.int .u32 0) := D1.cell 8
  have d1_9 : wd.cell? ⟨h_, 9, none⟩ = some (.int .u64 0) := D1.cell 9
  have d1_10 : wd.cell? ⟨h_, 10, none⟩ = some (.int .u64 h12) := D1.cell 10
  have d1_11 : wd.cell? ⟨h_, 11, none⟩ = some (.int .u64 rc) := D1.cell 11
  have d1_12 : wd.cell? ⟨h_, 12, none⟩ = some (.int .u64 tx) := D1.cell 12
  go_wp2_with fail
  refine bodyPost_ret (v := .tuple #[.slice A8 8 c8, .agg #[.int .i64 0, .int .i64 h1, .int .i64 4, .int .i64 s, .int .i64 h4, .int .i64 (-20), .int .u32 0, .int .u32 0, .int .u32 0, .int .u64 0, .int .u64 h12, .int .u64 rc, .int .u64 tx], .bool false, .int .i64 0]) (by simp [results, Try.results8, go_sem, *]) rfl ⟨_, _, rfl, HR, HFr2.out, RD⟩
set_option maxRecDepth 100000 in
set_option maxHeartbeats 4000000 in
theorem serve_hit_lt (A : Option Addr) (n c : Nat) (l : List (Nat × Nat)) (h0 h1 h2 h3 h4 h5 : Int) (h6 h7 h8 h9 h10 h11 h12 : Nat) (s : Int) (rc tx : Nat) (w : World) (hv : Echs w A n c l) (h : HdOk h0 h1 h2 h3 h4 h5) (hm : h2 = 3) (s0 : 0 ≤ s) (s1 : s ≤ 255) (hr : findE l rc = -1) (hn : n ≤ 7) (ho : ¬ h10 = 0) (k : Nat) (hk : k < n) (hf : findE l h10 = k) :
    Calls Try.prog 8 #[.slice A n c, .agg #[.int .i64 h0, .int .i64 h1, .int .i64 h2, .int .i64 h3, .int .i64 h4, .int .i64 h5, .int .u32 h6, .int .u32 h7, .int .u32 h8, .int .u64 h9, .int .u64 h10, .int .u64 h11, .int .u64 h12], .int .i64 s, .int .u64 rc, .int .u64 tx] w fun e w' =>
      ∃ A' c', e = .returned (.tuple #[.slice A' (1 + n) c', .agg #[.int .i64 0, .int .i64 h1, .int .i64 4, .int .i64 s, .int .i64 h4, .int .i64 (-20), .int .u32 0, .int .u32 0, .int .u32 0, .int .u64 0, .int .u64 h11, .int .u64 rc, .int .u64 (trmAt l k)], .bool true, .int .i64 0]) ∧ Echs w' A' (1 + n) c' (((rc, tx) :: l).take 8) ∧ (∀ x, A' = some x → w.heap.size ≤ x.block) ∧ Below w.heap.size w w' := by
  have HM := Lib.hid hm
  clear hm
  have q1 := hv.le
  have q2 := hv.cap
  have HOK := Lib.hid h
  have HL := Lib.hid hv.len
  clear h
  obtain ⟨i0, hi, hz0, hz1, hz2⟩ := info_parts infoEch
  have cw := Lib.hid (fun W (h : Echs W A n c l) => with_any A n c l rc W h); rw [hr] at cw
  have cf := Lib.hid (fun W (h : Echs W A n c l) => with_any A n c l h10 W h)
  rw [hf] at cf
  have ho2 : ¬ (h10 : Int) = 0 := by omega
  have hod : ((h10 : Int) != 0) = true := by simpa using ho2
  clear hf
  clear hr
  have hn8 : ¬ (n : Int) > 8 := by omega
  have hn9 : 1 + (n : Int) ≤ 8 := by omega
  have hn10 : ¬ 8 < 1 + (n : Int) := by omega
  obtain ⟨bm, om, rfl, km0, km1⟩ := hv.at_ hk
  have HK0 := Lib.hid km1
  have hbm := World.block_lt_of_cell? w _ km1
  clear km0 km1
  have hki : (k : Int) < (n : Int) := by omega
  have hki0 : (0 : Int) ≤ (k : Int) := by omega
  obtain ⟨tv, htv⟩ : ∃ tv, trmAt l k = tv := ⟨_, rfl⟩
  rw [htv] at HK0 ⊢
  clear htv
  have HV := Lib.hid hv
  have HVw := Lib.hid hv
  have HKw := HK0
  clear hv
  go_enter Try.func8, Try.ntmps8
  go_upto_region 1 with fail
  obtain ⟨x1, q_, h_, ex1, eq_, eh_⟩ : ∃ x1 q_ h_, x1 = (w.alloc (.cells #[.int .i64 h0, .int .i64 h1, .int .i64 h2, .int .i64 h3, .int .i64 h4, .int .i64 h5, .int .u32 h6, .int .u32 h7, .int .u32 h8, .int .u64 h9, .int .u64 h10, .int .u64 h11, .int .u64 h12] 35)).alloc (.cells #[.int .i64 0, .int .i64 0, .int .i64 0, .int .i64 0, .int .i64 0, .int .i64 0, .int .u32 0, .int .u32 0, .int .u32 0, .int .u64 0, .int .u64 0, .int .u64 0, .int .u64 0] 35) ∧ q_ = w.heap.size ∧ h_ = w.heap.size + 1 := ⟨_, _, _, rfl, rfl, rfl⟩
  rw [← ex1, ← eh_, ← eq_]
  have hbx : Below w.heap.size w x1 := by rw [ex1]; exact below_alloc2 _ _ _ 
  have o_Q_H : q_ < h_ := by omega
  have g_Q : w.heap.size ≤ q_ := by rw [eq_]; exact Nat.le_refl _
  have HV := Lib.hid (HV.out.stays hbx)
  have HK0 := Lib.hid (cell_stays hbx HK0.out)
  have BQ := Lib.hid (show Blk x1 q_ 35 #[.int .i64 h0, .int .i64 h1, .int .i64 h2, .int .i64 h3, .int .i64 h4, .int .i64 h5, .int .u32 h6, .int .u32 h7, .int .u32 h8, .int .u64 h9, .int .u64 h10, .int .u64 h11, .int .u64 h12] by rw [ex1, eq_]; exact blk_new2_0 _ _ _ _ _ )
  have BH := Lib.hid (show Blk x1 h_ 35 #[.int .i64 0, .int .i64 0, .int .i64 0, .int .i64 0, .int .i64 0, .int .i64 0, .int .u32 0, .int .u32 0, .int .u32 0, .int .u64 0, .int .u64 0, .int .u64 0, .int .u64 0] by rw [ex1, eh_]; exact blk_new2_1 _ _ _ _ _ )
  have R2 := Lib.hid hbx
  have hz_x1 := R2.out.size
  clear hbx ex1 eq_ eh_
  have kQ_0 : x1.cell? ⟨q_, 0, none⟩ = some (.int .i64 h0) := BQ.out.cell 0
  have kQ_1 : x1.cell? ⟨q_, 1, none⟩ = some (.int .i64 h1) := BQ.out.cell 1
  have kQ_2 : x1.cell? ⟨q_, 2, none⟩ = some (.int .i64 h2) := BQ.out.cell 2
  have kQ_3 : x1.cell? ⟨q_, 3, none⟩ = some (.int .i64 h3) := BQ.out.cell 3
  have kQ_4 : x1.cell? ⟨q_, 4, none⟩ = some (.int .i64 h4) := BQ.out.cell 4
  have kQ_5 : x1.cell? ⟨q_, 5, none⟩ = some (.int .i64 h5) := BQ.out.cell 5
  have kQ_6 : x1.cell? ⟨q_, 6, none⟩ = some (.int .u32 h6) := BQ.out.cell 6
  have kQ_7 : x1.cell? ⟨q_, 7, none⟩ = some (.int .u32 h7) := BQ.out.cell 7
  have kQ_8 : x1.cell? ⟨q_, 8, none⟩ = some (.int .u32 h8) := BQ.out.cell 8
  have kQ_9 : x1.cell? ⟨q_, 9, none⟩ = some (.int .u64 h9) := BQ.out.cell 9
  have kQ_10 : x1.cell? ⟨q_, 10, none⟩ = some (.int .u64 h10) := BQ.out.cell 10
  have kQ_11 : x1.cell? ⟨q_, 11, none⟩ = some (.int .u64 h11) := BQ.out.cell 11
  have kQ_12 : x1.cell? ⟨q_, 12, none⟩ = some (.int .u64 h12) := BQ.out.cell 12
  go_wp2_with fail
  refine (reply_ok h0 h1 h2 h3 h4 h5 h6 h7 h8 h9 h10 h11 h12 s rc tx _ HOK.out HM.out s0 s1).mono ?_
  rintro e y3 ⟨rfl, hb⟩
  clear kQ_0 kQ_1 kQ_2 kQ_3 kQ_4 kQ_5 kQ_6 kQ_7 kQ_8 kQ_9 kQ_10 kQ_11 kQ_12
  have hbx : Below x1.heap.size x1 y3 := below_via (by go_grown) hb (by first | (simp; done) | (simp; omega))
  have BQ := Lib.hid (BQ.out.stays hbx)
  have BH := Lib.hid (BH.out.stays hbx)
  have HV := Lib.hid (HV.out.stays hbx)
  have HK0 := Lib.hid (cell_stays hbx HK0.out)
  have R4 := Lib.hid (R2.out.trans (hbx.mono hz_x1))
  have hz_y3 := R4.out.size
  clear hb hbx  R2 hz_x1
  have kH_0 : y3.cell? ⟨h_, 0, none⟩ = some (.int .i64 0) := BH.out.cell 0
  have kH_1 : y3.cell? ⟨h_, 1, none⟩ = some (.int .i64 0) := BH.out.cell 1
  have kH_2 : y3.cell? ⟨h_, 2, none⟩ = some (.int .i64 0) := BH.out.cell 2
  have kH_3 : y3.cell? ⟨h_, 3, none⟩ = some (.int .i64 0) := BH.out.cell 3
  have kH_4 : y3.cell? ⟨h_, 4, none⟩ = some (.int .i64 0) := BH.out.cell 4
  have kH_5 : y3.cell? ⟨h_, 5, none⟩ = some (.int .i64 0) := BH.out.cell 5
  have kH_6 : y3.cell? ⟨h_, 6, none⟩ = some (.int .u32 0) := BH.out.cell 6
  have kH_7 : y3.cell? ⟨h_, 7, none⟩ = some (.int .u32 0) := BH.out.cell 7
  have kH_8 : y3.cell? ⟨h_, 8, none⟩ = some (.int .u32 0) := BH.out.cell 8
  have kH_9 : y3.cell? ⟨h_, 9, none⟩ = some (.int .u64 0) := BH.out.cell 9
  have kH_10 : y3.cell? ⟨h_, 10, none⟩ = some (.int .u64 0) := BH.out.cell 10
  have kH_11 : y3.cell? ⟨h_, 11, none⟩ = some (.int .u64 0) := BH.out.cell 11
  have kH_12 : y3.cell? ⟨h_, 12, none⟩ = some (.int .u64 0) := BH.out.cell 12
  have fH_0 := BH.out.frozen 0
  have fH_1 := BH.out.frozen 1
  have fH_2 := BH.out.frozen 2
  have fH_3 := BH.out.frozen 3
  have fH_4 := BH.out.frozen 4
  have fH_5 := BH.out.frozen 5
  have fH_6 := BH.out.frozen 6
  have fH_7 := BH.out.frozen 7
  have fH_8 := BH.out.frozen 8
  have fH_9 := BH.out.frozen 9
  have fH_10 := BH.out.frozen 10
  have fH_11 := BH.out.frozen 11
  have fH_12 := BH.out.frozen 12
  go_upto_region 2 with fail
  clear kH_0 kH_1 kH_2 kH_3 kH_4 kH_5 kH_6 kH_7 kH_8 kH_9 kH_10 kH_11 kH_12 fH_0 fH_1 fH_2 fH_3 fH_4 fH_5 fH_6 fH_7 fH_8 fH_9 fH_10 fH_11 fH_12
  generalize ex : World.setCell _ ⟨h_, 12, none⟩ _ = x5
  have ex2 : stores y3 h_ [.int .i64 0, .int .i64 h1, .int .i64 4, .int .i64 s, .int .i64 h4, .int .i64 (-20), .int .u32 0, .int .u32 0, .int .u32 0, .int .u64 0, .int .u64 h12, .int .u64 rc, .int .u64 tx] 0 = x5 := ex
  have BQ := Lib.hid (show Blk x5 q_ 35 #[.int .i64 h0, .int .i64 h1, .int .i64 h2, .int .i64 h3, .int .i64 h4, .int .i64 h5, .int .u32 h6, .int .u32 h7, .int .u32 h8, .int .u64 h9, .int .u64 h10, .int .u64 h11, .int .u64 h12] by rw [← ex2]; exact Blk.beside (by omega) _ _ 0 BQ.out)
  have BH := Lib.hid (show Blk x5 h_ 35 #[.int .i64 0, .int .i64 h1, .int .i64 4, .int .i64 s, .int .i64 h4, .int .i64 (-20), .int .u32 0, .int .u32 0, .int .u32 0, .int .u64 0, .int .u64 h12, .int .u64 rc, .int .u64 tx] by rw [← ex2]; exact BH.out.filled _ rfl)
  have R6 := Lib.hid (show Below w.heap.size w x5 by rw [← ex2]; exact Below.stores (by omega) _ _ _ R4.out)
  have hz_x5 := R6.out.size
  clear ex ex2 R4 hz_y3
  go_wp2_with fail
  refine (cw.out _ (HVw.out.stays R6.out)).mono ?_
  rintro e y7 ⟨rfl, hb⟩
  have hbx : Below x5.heap.size x5 y7 := below_via (by go_grown) hb (by first | (simp; done) | (simp; omega))
  have BQ := Lib.hid (BQ.out.stays hbx)
  have BH := Lib.hid (BH.out.stays hbx)
  have R8 := Lib.hid (R6.out.trans (hbx.mono hz_x5))
  have hz_y7 := R8.out.size
  clear hb hbx  R6 hz_x5
  have kQ_10 : y7.cell? ⟨q_, 10, none⟩ = some (.int .u64 h10) := BQ.out.cell 10
  go_wp2_with fail
  refine (cf.out _ (HVw.out.stays R8.out)).mono ?_
  rintro e y9 ⟨rfl, hb⟩
  clear kQ_10
  have hbx : Below y7.heap.size y7 y9 := below_via (by go_grown) hb (by first | (simp; done) | (simp; omega))
  have BQ := Lib.hid (BQ.out.stays hbx)
  have BH := Lib.hid (BH.out.stays hbx)
  have R10 := Lib.hid (R8.out.trans (hbx.mono hz_y7))
  have hz_y9 := R10.out.size
  clear hb hbx  R8 hz_y7
  have kQ_10 : y9.cell? ⟨q_, 10, none⟩ = some (.int .u64 h10) := BQ.out.cell 10
  go_upto_region 11 with fail
  clear kQ_10
  have kQ_11 : y9.cell? ⟨q_, 11, none⟩ = some (.int .u64 h11) := BQ.out.cell 11
  have kH_10 : y9.cell? ⟨h_, 10, none⟩ = some (.int .u64 h12) := BH.out.cell 10
  have kH_12 : y9.cell? ⟨h_, 12, none⟩ = some (.int .u64 tx) := BH.out.cell 12
  have fH_10 := BH.out.frozen 10
  have fH_12 := BH.out.frozen 12
  have n_Q_H : ¬ q_ = h_ := by omega
  have n_H_Q : ¬ h_ = q_ := by omega
  have km1 := cell_stays R10.out HKw.out
  have nbm1 : ¬ bm = h_ := by omega
  have nbm2 : ¬ h_ = bm := by omega
  go_region
  clear kQ_11 kH_10 kH_12 fH_10 fH_12 n_Q_H n_H_Q km1 nbm1 nbm2
  generalize ex : World.drew (World.setCell _ ⟨h_, 10, none⟩ _) = xe
  have ex2 : ((y9.setCell ⟨h_, 12, none⟩ (.int .u64 tv)).setCell ⟨h_, 10, none⟩ (.int .u64 h11)).drew = xe := ex
  have BQ := Lib.hid (show Blk xe q_ 35 #[.int .i64 h0, .int .i64 h1, .int .i64 h2, .int .i64 h3, .int .i64 h4, .int .i64 h5, .int .u32 h6, .int .u32 h7, .int .u32 h8, .int .u64 h9, .int .u64 h10, .int .u64 h11, .int .u64 h12] by rw [← ex2]; exact ((BQ.out.far (p := ⟨h_, 12, none⟩) (by simp only []; omega) _).far (p := ⟨h_, 10, none⟩) (by simp only []; omega) _).drew)
  have BH := Lib.hid (show Blk xe h_ 35 #[.int .i64 0, .int .i64 h1, .int .i64 4, .int .i64 s, .int .i64 h4, .int .i64 (-20), .int .u32 0, .int .u32 0, .int .u32 0, .int .u64 0, .int .u64 h11, .int .u64 rc, .int .u64 tv] by rw [← ex2]; exact ((BH.out.put 12 _).put 10 _).drew)
  have RE := Lib.hid (show Below w.heap.size w xe by rw [← ex2]; exact ((R10.out.setCell (p := ⟨h_, 12, none⟩) (by simp only []; omega) _).setCell (p := ⟨h_, 10, none⟩) (by simp only []; omega) _).drew)
  have hz_xe := RE.out.size
  clear ex ex2 R10 hz_y9
  have hown := World.ownsRow_lit (base := xe.heap.size) (e := 67) (size := 2) xe #[.int .u64 rc, .int .u64 tx] 1 (Nat.le_refl _) (by decide) rfl
  have HO := Lib.hid hown
  clear hown
  have HVc := Lib.hid ((HVw.out.stays RE.out).stays (below_alloc1 _ (.cells #[.int .u64 rc, .int .u64 tx] 67)))
  go_wp2_with (at_builtin; refine wpList_append_rd rfl _ _ 28 rfl i0 _ 16 Try.underlying28 hi hz0 hz1 hz2 rfl (by decide) rfl HO.out rfl HVc.out (echC_one _) (by unfold maxLen; omega) (by omega) (by first | (simp; done) | omega) ?_)
  intro A8 c8 w8 hown8 hg8 hb8
  have o_H := BH.out.lt
  have hbx : Below xe.heap.size xe w8 := (below_alloc1 _ _).trans hb8
  have BQ := Lib.hid (BQ.out.stays hbx)
  have BH := Lib.hid (BH.out.stays hbx)
  have RF := Lib.hid (RE.out.trans (hbx.mono hz_xe))
  have hz_w8 := RF.out.size
  have HFr : Hid (∀ x, A8 = some x → x.block ≠ h_) := by
    intro x hx e
    subst hx
    have := (hown8.lt x.block rfl).1
    omega
  have HFr2 : Hid (∀ x, A8 = some x → w.heap.size ≤ x.block) := by
    intro x hx
    subst hx
    have := (hown8.lt x.block rfl).1
    omega
  have HE := Lib.hid (own_rd hown8)
  have q3 := HE.out.2.1
  have q4 : c8 ≤ 9223372036854775807 := by have := HE.out.2.2.1; unfold maxLen at this; omega
  clear hown8 hg8 hb8 hbx HO HVc RE hz_xe
  go_upto_region 13 with fail
  have kH_0 : w8.cell? ⟨h_, 0, none⟩ = some (.int .i64 0) := BH.out.cell 0
  have kH_1 : w8.cell? ⟨h_, 1, none⟩ = some (.int .i64 h1) := BH.out.cell 1
  have kH_2 : w8.cell? ⟨h_, 2, none⟩ = some (.int .i64 4) := BH.out.cell 2
  have kH_3 : w8.cell? ⟨h_, 3, none⟩ = some (.int .i64 s) := BH.out.cell 3
  have kH_4 : w8.cell? ⟨h_, 4, none⟩ = some (.int .i64 h4) := BH.out.cell 4
  have kH_5 : w8.cell? ⟨h_, 5, none⟩ = some (.int .i64 (-20)) := BH.out.cell 5
  have kH_6 : w8.cell? ⟨h_, 6, none⟩ = some (.int .u32 0) := BH.out.cell 6
  have kH_7 : w8.cell? ⟨h_, 7, none⟩ = some (.int .u32 0) := BH.out.cell 7
  have kH_8 : w8.cell? ⟨h_, 8, none⟩ = some (.int .u32 0) := BH.out.cell 8
  have kH_9 : w8.cell? ⟨h_, 9, none⟩ = some (.int .u64 0) := BH.out.cell 9
  have kH_10 : w8.cell? ⟨h_, 10, none⟩ = some (.int .u64 h11) := BH.out.cell 10
  have kH_11 : w8.cell? ⟨h_, 11, none⟩ = some (.int .u64 rc) := BH.out.cell 11
  have kH_12 : w8.cell? ⟨h_, 12, none⟩ = some (.int .u64 tv) := BH.out.cell 12
  have fH_0 := BH.out.frozen 0
  have fH_1 := BH.out.frozen 1
  have fH_2 := BH.out.frozen 2
  have fH_3 := BH.out.frozen 3
  have fH_4 := BH.out.frozen 4
  have fH_5 := BH.out.frozen 5
  have fH_6 := BH.out.frozen 6
  have fH_7 := BH.out.frozen 7
  have fH_8 := BH.out.frozen 8
  have fH_9 := BH.out.frozen 9
  have fH_10 := BH.out.frozen 10
  have fH_11 := BH.out.frozen 11
  have fH_12 := BH.out.frozen 12
  go_outline
  go_region
  clear kH_0 kH_1 kH_2 kH_3 kH_4 kH_5 kH_6 kH_7 kH_8 kH_9 kH_10 kH_11 kH_12 fH_0 fH_1 fH_2 fH_3 fH_4 fH_5 fH_6 fH_7 fH_8 fH_9 fH_10 fH_11 fH_12
  generalize ex : World.drew (World.setCell _ ⟨h_, 12, none⟩ _) = wd
  have ex2 : (stores w8 h_ [.int .i64 0, .int .i64 h1, .int .i64 4, .int .i64 s, .int .i64 h4, .int .i64 (-20), .int .u32 0, .int .u32 0, .int .u32 0, .int .u64 0, .int .u64 h11, .int .u64 rc, .int .u64 tv] 0).drew = wd := ex
  have D1 : Blk wd h_ 35 #[.int .i64 0, .int .i64 h1, .int .i64 4, .int .i64 s, .int .i64 h4, .int .i64 (-20), .int .u32 0, .int .u32 0, .int .u32 0, .int .u64 0, .int .u64 h11, .int .u64 rc, .int .u64 tv] := by rw [← ex2]; exact (BH.out.filled _ rfl).drew
  have RD : Below w.heap.size w wd := by rw [← ex2]; exact (Below.stores (by omega) _ _ _ RF.out).drew
  have HR : Echs wd A8 (1 + n) c8 (((rc, tx) :: l).take 8) := by rw [← ex2]; exact echs_kept HE.out HL.out (by omega) (by omega) HFr.out
  clear ex ex2
  have d1_0 : wd.cell? ⟨h_, 0, none⟩ = some (.int .i64 0) := D1.cell 0
  have d1_1 : wd.cell? ⟨h_, 1, none⟩ = some (.int .i64 h1) := D1.cell 1
  have d1_2 : wd.cell? ⟨h_, 2, none⟩ = some (.int .i64 4) := D1.cell 2
  have d1_3 : wd.cell? ⟨h_, 3, none⟩ = some (.int .i64 s) := D1.cell 3
  have d1_4 : wd.cell? ⟨h_, 4, none⟩ = some (.int .i64 h4) := D1.cell 4
  have d1_5 : wd.cell? ⟨h_, 5, none⟩ = some (.int .i64 (-20)) := D1.cell 5
  have d1_6 : wd.cell? ⟨h_, 6, none⟩ = some (.int .u32 0) := D1.cell 6
  have d1_7 : wd.cell? ⟨h_, 7, none⟩ = some (.int .u32 0) := D1.cell 7
  have d1_8 : wd.cell? ⟨h_, 8, none⟩ = some (.int .u32 0) := D1.cell 8
  have d1_9 : wd.cell? ⟨h_, 9, none⟩ = some (.int .u64 0) := D1.cell 9
  have d1_10 : wd.cell? ⟨h_, 10, none⟩ = some (.int .u64 h11) := D1.cell 10
  have d1_11 : wd.cell? ⟨h_, 11, none⟩ = some (.int .u64 rc) := D1.cell 11
  have d1_12 : wd.cell? ⟨h_, 12, none⟩ = some (.int .u64 tv) := D1.cell 12
  go_wp2_with fail
  refine bodyPost_ret (v := .tuple #[.slice A8 (1 + n) c8, .agg #[.int .i64 0, .int .i64 h1, .int .i64 4, .int .i64 s, .int .i64 h4, .int .i64 (-20), .int .u32 0, .int .u32 0, .int .u32 0, .int .u64 0, .int .u64 h11, .int .u64 rc, .int .u64 tv], .bool true, .int .i64 0]) (by simp [results, Try.results8, go_sem, *]) rfl ⟨_, _, rfl, HR, HFr2.out, RD⟩
set_option maxRecDepth 100000 in
set_option maxHeartbeats 4000000 in
theorem serve_hit_full (A : Option Addr) (n c : Nat) (l : List (Nat × Nat)) (h0 h1 h2 h3 h4 h5 : Int) (h6 h7 h8 h9 h10 h11 h12 : Nat) (s : Int) (rc tx : Nat) (w : World) (hv : Echs w A n c l) (h : HdOk h0 h1 h2 h3 h4 h5) (hm : h2 = 3) (s0 : 0 ≤ s) (s1 : s ≤ 255) (hr : findE l rc = -1) (hn : n = 8) (ho : ¬ h10 = 0) (k : Nat) (hk : k < n) (hf : findE l h10 = k) :
    Calls Try.prog 8 #[.slice A n c, .agg #[.int .i64 h0, .int .i64 h1, .int .i64 h2, .int .i64 h3, .int .i64 h4, .int .i64 h5, .int .u32 h6, .int .u32 h7, .int .u32 h8, .int .u64 h9, .int .u64 h10, .int .u64 h11, .int .u64 h12], .int .i64 s, .int .u64 rc, .int .u64 tx] w fun e w' =>
      ∃ A' c', e = .returned (.tuple #[.slice A' 8 c', .agg #[.int .i64 0, .int .i64 h1, .int .i64 4, .int .i64 s, .int .i64 h4, .int .i64 (-20), .int .u32 0, .int .u32 0, .int .u32 0, .int .u64 0, .int .u64 h11, .int .u64 rc, .int .u64 (trmAt l k)], .bool true, .int .i64 0]) ∧ Echs w' A' 8 c' (((rc, tx) :: l).take 8) ∧ (∀ x, A' = some x → w.heap.size ≤ x.block) ∧ Below w.heap.size w w' := by
  subst hn
  have HM := Lib.hid hm
  clear hm
  have q1 := hv.le
  have q2 := hv.cap
  have HOK := Lib.hid h
  have HL := Lib.hid hv.len
  clear h
  obtain ⟨i0, hi, hz0, hz1, hz2⟩ := info_parts infoEch
  have cw := Lib.hid (fun W (h : Echs W A 8 c l) => with_any A 8 c l rc W h); rw [hr] at cw
  have cf := Lib.hid (fun W (h : Echs W A 8 c l) => with_any A 8 c l h10 W h)
  rw [hf] at cf
  have ho2 : ¬ (h10 : Int) = 0 := by omega
  have hod : ((h10 : Int) != 0) = true := by simpa using ho2
  clear hf
  clear hr
  obtain ⟨bm, om, rfl, km0, km1⟩ := hv.at_ hk
  have HK0 := Lib.hid km1
  have hbm := World.block_lt_of_cell? w _ km1
  clear km0 km1
  have hki : (k : Int) < 8 := by omega
  have hki0 : (0 : Int) ≤ (k : Int) := by omega
  obtain ⟨tv, htv⟩ : ∃ tv, trmAt l k = tv := ⟨_, rfl⟩
  rw [htv] at HK0 ⊢
  clear htv
  have HV := Lib.hid hv
  have HVw := Lib.hid hv
  have HKw := HK0
  clear hv
  go_enter Try.func8, Try.ntmps8
  go_upto_region 1 with fail
  obtain ⟨x1, q_, h_, ex1, eq_, eh_⟩ : ∃ x1 q_ h_, x1 = (w.alloc (.cells #[.int .i64 h0, .int .i64 h1, .int .i64 h2, .int .i64 h3, .int .i64 h4, .int .i64 h5, .int .u32 h6, .int .u32 h7, .int .u32 h8, .int .u64 h9, .int .u64 h10, .int .u64 h11, .int .u64 h12] 35)).alloc (.cells #[.int .i64 0, .int .i64 0, .int .i64 0, .int .i64 0, .int .i64 0, .int .i64 0, .int .u32 0, .int .u32 0, .int .u32 0, .int .u64 0, .int .u64 0, .int .u64 0, .int .u64 0] 35) ∧ q_ = w.heap.size ∧ h_ = w.heap.size + 1 := ⟨_, _, _, rfl, rfl, rfl⟩
  rw [← ex1, ← eh_, ← eq_]
  have hbx : Below w.heap.size w x1 := by rw [ex1]; exact below_alloc2 _ _ _ 
  have o_Q_H : q_ < h_ := by omega
  have g_Q : w.heap.size ≤ q_ := by rw [eq_]; exact Nat.le_refl _
  have HV := Lib.hid (HV.out.stays hbx)
  have HK0 := Lib.hid (cell_stays hbx HK0.out)
  have BQ := Lib.hid (show Blk x1 q_ 35 #[.int .i64 h0, .int .i64 h1, .int .i64 h2, .int .i64 h3, .int .i64 h4, .int .i64 h5, .int .u32 h6, .int .u32 h7, .int .u32 h8, .int .u64 h9, .int .u64 h10, .int .u64 h11, .int .u64 h12] by rw [ex1, eq_]; exact blk_new2_0 _ _ _ _ _ )
  have BH := Lib.hid (show Blk x1 h_ 35 #[.int .i64 0, .int .i64 0, .int .i64 0, .int .i64 0, .int .i64 0, .int .i64 0, .int .u32 0, .int .u32 0, .int .u32 0, .int .u64 0, .int .u64 0, .int .u64 0, .int .u64 0] by rw [ex1, eh_]; exact blk_new2_1 _ _ _ _ _ )
  have R2 := Lib.hid hbx
  have hz_x1 := R2.out.size
  clear hbx ex1 eq_ eh_
  have kQ_0 : x1.cell? ⟨q_, 0, none⟩ = some (.int .i64 h0) := BQ.out.cell 0
  have kQ_1 : x1.cell? ⟨q_, 1, none⟩ = some (.int .i64 h1) := BQ.out.cell 1
  have kQ_2 : x1.cell? ⟨q_, 2, none⟩ = some (.int .i64 h2) := BQ.out.cell 2
  have kQ_3 : x1.cell? ⟨q_, 3, none⟩ = some (.int .i64 h3) := BQ.out.cell 3
  have kQ_4 : x1.cell? ⟨q_, 4, none⟩ = some (.int .i64 h4) := BQ.out.cell 4
  have kQ_5 : x1.cell? ⟨q_, 5, none⟩ = some (.int .i64 h5) := BQ.out.cell 5
  have kQ_6 : x1.cell? ⟨q_, 6, none⟩ = some (.int .u32 h6) := BQ.out.cell 6
  have kQ_7 : x1.cell? ⟨q_, 7, none⟩ = some (.int .u32 h7) := BQ.out.cell 7
  have kQ_8 : x1.cell? ⟨q_, 8, none⟩ = some (.int .u32 h8) := BQ.out.cell 8
  have kQ_9 : x1.cell? ⟨q_, 9, none⟩ = some (.int .u64 h9) := BQ.out.cell 9
  have kQ_10 : x1.cell? ⟨q_, 10, none⟩ = some (.int .u64 h10) := BQ.out.cell 10
  have kQ_11 : x1.cell? ⟨q_, 11, none⟩ = some (.int .u64 h11) := BQ.out.cell 11
  have kQ_12 : x1.cell? ⟨q_, 12, none⟩ = some (.int .u64 h12) := BQ.out.cell 12
  go_wp2_with fail
  refine (reply_ok h0 h1 h2 h3 h4 h5 h6 h7 h8 h9 h10 h11 h12 s rc tx _ HOK.out HM.out s0 s1).mono ?_
  rintro e y3 ⟨rfl, hb⟩
  clear kQ_0 kQ_1 kQ_2 kQ_3 kQ_4 kQ_5 kQ_6 kQ_7 kQ_8 kQ_9 kQ_10 kQ_11 kQ_12
  have hbx : Below x1.heap.size x1 y3 := below_via (by go_grown) hb (by first | (simp; done) | (simp; omega))
  have BQ := Lib.hid (BQ.out.stays hbx)
  have BH := Lib.hid (BH.out.stays hbx)
  have HV := Lib.hid (HV.out.stays hbx)
  have HK0 := Lib.hid (cell_stays hbx HK0.out)
  have R4 := Lib.hid (R2.out.trans (hbx.mono hz_x1))
  have hz_y3 := R4.out.size
  clear hb hbx  R2 hz_x1
  have kH_0 : y3.cell? ⟨h_, 0, none⟩ = some (.int .i64 0) := BH.out.cell 0
  have kH_1 : y3.cell? ⟨h_, 1, none⟩ = some (.int .i64 0) := BH.out.cell 1
  have kH_2 : y3.cell? ⟨h_, 2, none⟩ = some (.int .i64 0) := BH.out.cell 2
  have kH_3 : y3.cell? ⟨h_, 3, none⟩ = some (.int .i64 0) := BH.out.cell 3
  have kH_4 : y3.cell? ⟨h_, 4, none⟩ = some (.int .i64 0) := BH.out.cell 4
  have kH_5 : y3.cell? ⟨h_, 5, none⟩ = some (.int .i64 0) := BH.out.cell 5
  have kH_6 : y3.cell? ⟨h_, 6, none⟩ = some (.int .u32 0) := BH.out.cell 6
  have kH_7 : y3.cell? ⟨h_, 7, none⟩ = some (.int .u32 0) := BH.out.cell 7
  have kH_8 : y3.cell? ⟨h_, 8, none⟩ = some (.int .u32 0) := BH.out.cell 8
  have kH_9 : y3.cell? ⟨h_, 9, none⟩ = some (.int .u64 0) := BH.out.cell 9
  have kH_10 : y3.cell? ⟨h_, 10, none⟩ = some (.int .u64 0) := BH.out.cell 10
  have kH_11 : y3.cell? ⟨h_, 11, none⟩ = some (.int .u64 0) := BH.out.cell 11
  have kH_12 : y3.cell? ⟨h_, 12, none⟩ = some (.int .u64 0) := BH.out.cell 12
  have fH_0 := BH.out.frozen 0
  have fH_1 := BH.out.frozen 1
  have fH_2 := BH.out.frozen 2
  have fH_3 := BH.out.frozen 3
  have fH_4 := BH.out.frozen 4
  have fH_5 := BH.out.frozen 5
  have fH_6 := BH.out.frozen 6
  have fH_7 := BH.out.frozen 7
  have fH_8 := BH.out.frozen 8
  have fH_9 := BH.out.frozen 9
  have fH_10 := BH.out.frozen 10
  have fH_11 := BH.out.frozen 11
  have fH_12 := BH.out.frozen 12
  go_upto_region 2 with fail
  clear kH_0 kH_1 kH_2 kH_3 kH_4 kH_5 kH_6 kH_7 kH_8 kH_9 kH_10 kH_11 kH_12 fH_0 fH_1 fH_2 fH_3 fH_4 fH_5 fH_6 fH_7 fH_8 fH_9 fH_10 fH_11 fH_12
  generalize ex : World.setCell _ ⟨h_, 12, none⟩ _ = x5
  have ex2 : stores y3 h_ [.int .i64 0, .int .i64 h1, .int .i64 4, .int .i64 s, .int .i64 h4, .int .i64 (-20), .int .u32 0, .int .u32 0, .int .u32 0, .int .u64 0, .int .u64 h12, .int .u64 rc, .int .u64 tx] 0 = x5 := ex
  have BQ := Lib.hid (show Blk x5 q_ 35 #[.int .i64 h0, .int .i64 h1, .int .i64 h2, .int .i64 h3, .int .i64 h4, .int .i64 h5, .int .u32 h6, .int .u32 h7, .int .u32 h8, .int .u64 h9, .int .u64 h10, .int .u64 h11, .int .u64 h12] by rw [← ex2]; exact Blk.beside (by omega) _ _ 0 BQ.out)
  have BH := Lib.hid (show Blk x5 h_ 35 #[.int .i64 0, .int .i64 h1, .int .i64 4, .int .i64 s, .int .i64 h4, .int .i64 (-20), .int .u32 0, .int .u32 0, .int .u32 0, .int .u64 0, .int .u64 h12, .int .u64 rc, .int .u64 tx] by rw [← ex2]; exact BH.out.filled _ rfl)
  have R6 := Lib.hid (show Below w.heap.size w x5 by rw [← ex2]; exact Below.stores (by omega) _ _ _ R4.out)
  have hz_x5 := R6.out.size
  clear ex ex2 R4 hz_y3
  go_wp2_with fail
  refine (cw.out _ (HVw.out.stays R6.out)).mono ?_
  rintro e y7 ⟨rfl, hb⟩
  have hbx : Below x5.heap.size x5 y7 := below_via (by go_grown) hb (by first | (simp; done) | (simp; omega))
  have BQ := Lib.hid (BQ.out.stays hbx)
  have BH := Lib.hid (BH.out.stays hbx)
  have R8 := Lib.hid (R6.out.trans (hbx.mono hz_x5))
  have hz_y7 := R8.out.size
  clear hb hbx  R6 hz_x5
  have kQ_10 : y7.cell? ⟨q_, 10, none⟩ = some (.int .u64 h10) := BQ.out.cell 10
  go_wp2_with fail
  refine (cf.out _ (HVw.out.stays R8.out)).mono ?_
  rintro e y9 ⟨rfl, hb⟩
  clear kQ_10
  have hbx : Below y7.heap.size y7 y9 := below_via (by go_grown) hb (by first | (simp; done) | (simp; omega))
  have BQ := Lib.hid (BQ.out.stays hbx)
  have BH := Lib.hid (BH.out.stays hbx)
  have R10 := Lib.hid (R8.out.trans (hbx.mono hz_y7))
  have hz_y9 := R10.out.size
  clear hb hbx  R8 hz_y7
  have kQ_10 : y9.cell? ⟨q_, 10, none⟩ = some (.int .u64 h10) := BQ.out.cell 10
  go_upto_region 11 with fail
  clear kQ_10
  have kQ_11 : y9.cell? ⟨q_, 11, none⟩ = some (.int .u64 h11) := BQ.out.cell 11
  have kH_10 : y9.cell? ⟨h_, 10, none⟩ = some (.int .u64 h12) := BH.out.cell 10
  have kH_12 : y9.cell? ⟨h_, 12, none⟩ = some (.int .u64 tx) := BH.out.cell 12
  have fH_10 := BH.out.frozen 10
  have fH_12 := BH.out.frozen 12
  have n_Q_H : ¬ q_ = h_ := by omega
  have n_H_Q : ¬ h_ = q_ := by omega
  have km1 := cell_stays R10.out HKw.out
  have nbm1 : ¬ bm = h_ := by omega
  have nbm2 : ¬ h_ = bm := by omega
  go_region
  clear kQ_11 kH_10 kH_12 fH_10 fH_12 n_Q_H n_H_Q km1 nbm1 nbm2
  generalize ex : World.drew (World.setCell _ ⟨h_, 10, none⟩ _) = xe
  have ex2 : ((y9.setCell ⟨h_, 12, none⟩ (.int .u64 tv)).setCell ⟨h_, 10, none⟩ (.int .u64 h11)).drew = xe := ex
  have BQ := Lib.hid (show Blk xe q_ 35 #[.int .i64 h0, .int .i64 h1, .int .i64 h2, .int .i64 h3, .int .i64 h4, .int .i64 h5, .int .u32 h6, .int .u32 h7, .int .u32 h8, .int .u64 h9, .int .u64 h10, .int .u64 h11, .int .u64 h12] by rw [← ex2]; exact ((BQ.out.far (p := ⟨h_, 12, none⟩) (by simp only []; omega) _).far (p := ⟨h_, 10, none⟩) (by simp only []; omega) _).drew)
  have BH := Lib.hid (show Blk xe h_ 35 #[.int .i64 0, .int .i64 h1, .int .i64 4, .int .i64 s, .int .i64 h4, .int .i64 (-20), .int .u32 0, .int .u32 0, .int .u32 0, .int .u64 0, .int .u64 h11, .int .u64 rc, .int .u64 tv] by rw [← ex2]; exact ((BH.out.put 12 _).put 10 _).drew)
  have RE := Lib.hid (show Below w.heap.size w xe by rw [← ex2]; exact ((R10.out.setCell (p := ⟨h_, 12, none⟩) (by simp only []; omega) _).setCell (p := ⟨h_, 10, none⟩) (by simp only []; omega) _).drew)
  have hz_xe := RE.out.size
  clear ex ex2 R10 hz_y9
  have hown := World.ownsRow_lit (base := xe.heap.size) (e := 67) (size := 2) xe #[.int .u64 rc, .int .u64 tx] 1 (Nat.le_refl _) (by decide) rfl
  have HO := Lib.hid hown
  clear hown
  have HVc := Lib.hid ((HVw.out.stays RE.out).stays (below_alloc1 _ (.cells #[.int .u64 rc, .int .u64 tx] 67)))
  go_wp2_with (at_builtin; refine wpList_append_rd rfl _ _ 28 rfl i0 _ 16 Try.underlying28 hi hz0 hz1 hz2 rfl (by decide) rfl HO.out rfl HVc.out (echC_one _) (by unfold maxLen; omega) (by omega) (by first | (simp; done) | omega) ?_)
  intro A8 c8 w8 hown8 hg8 hb8
  have o_H := BH.out.lt
  have hbx : Below xe.heap.size xe w8 := (below_alloc1 _ _).trans hb8
  have BQ := Lib.hid (BQ.out.stays hbx)
  have BH := Lib.hid (BH.out.stays hbx)
  have RF := Lib.hid (RE.out.trans (hbx.mono hz_xe))
  have hz_w8 := RF.out.size
  have HFr : Hid (∀ x, A8 = some x → x.block ≠ h_) := by
    intro x hx e
    subst hx
    have := (hown8.lt x.block rfl).1
    omega
  have HFr2 : Hid (∀ x, A8 = some x → w.heap.size ≤ x.block) := by
    intro x hx
    subst hx
    have := (hown8.lt x.block rfl).1
    omega
  have HE := Lib.hid (own_rd hown8)
  have q3 := HE.out.2.1
  have q4 : c8 ≤ 9223372036854775807 := by have := HE.out.2.2.1; unfold maxLen at this; omega
  clear hown8 hg8 hb8 hbx HO HVc RE hz_xe
  go_upto_region 13 with fail
  have kH_0 : w8.cell? ⟨h_, 0, none⟩ = some (.int .i64 0) := BH.out.cell 0
  have kH_1 : w8.cell? ⟨h_, 1, none⟩ = some (.int .i64 h1) := BH.out.cell 1
  have kH_2 : w8.cell? ⟨h_, 2, none⟩ = some (.int .i64 4) := BH.out.cell 2
  have kH_3 : w8.cell? ⟨h_, 3, none⟩ = some (.int .i64 s) := BH.out.cell 3
  have kH_4 : w8.cell? ⟨h_, 4, none⟩ = some (.int .i64 h4) := BH.out.cell 4
  have kH_5 : w8.cell? ⟨h_, 5, none⟩ = some (.int .i64 (-20)) := BH.out.cell 5
  have kH_6 : w8.cell? ⟨h_, 6, none⟩ = some (.int .u32 0) := BH.out.cell 6
  have kH_7 : w8.cell? ⟨h_, 7, none⟩ = some (.int .u32 0) := BH.out.cell 7
  have kH_8 : w8.cell? ⟨h_, 8, none⟩ = some (.int .u32 0) := BH.out.cell 8
  have kH_9 : w8.cell? ⟨h_, 9, none⟩ = some (.int .u64 0) := BH.out.cell 9
  have kH_10 : w8.cell? ⟨h_, 10, none⟩ = some (.int .u64 h11) := BH.out.cell 10
  have kH_11 : w8.cell? ⟨h_, 11, none⟩ = some (.int .u64 rc) := BH.out.cell 11
  have kH_12 : w8.cell? ⟨h_, 12, none⟩ = some (.int .u64 tv) := BH.out.cell 12
  have fH_0 := BH.out.frozen 0
  have fH_1 := BH.out.frozen 1
  have fH_2 := BH.out.frozen 2
  have fH_3 := BH.out.frozen 3
  have fH_4 := BH.out.frozen 4
  have fH_5 := BH.out.frozen 5
  have fH_6 := BH.out.frozen 6
  have fH_7 := BH.out.frozen 7
  have fH_8 := BH.out.frozen 8
  have fH_9 := BH.out.frozen 9
  have fH_10 := BH.out.frozen 10
  have fH_11 := BH.out.frozen 11
  have fH_12 := BH.out.frozen 12
  go_outline
  go_region
  clear kH_0 kH_1 kH_2 kH_3 kH_4 kH_5 kH_6 kH_7 kH_8 kH_9 kH_10 kH_11 kH_12 fH_0 fH_1 fH_2 fH_3 fH_4 fH_5 fH_6 fH_7 fH_8 fH_9 fH_10 fH_11 fH_12
  generalize ex : World.drew (World.setCell _ ⟨h_, 12, none⟩ _) = wd
  have ex2 : (stores w8 h_ [.int .i64 0, .int .i64 h1, .int .i64 4, .int .i64 s, .int .i64 h4, .int .i64 (-20), .int .u32 0, .int .u32 0, .int .u32 0, .int .u64 0, .int .u64 h11, .int .u64 rc, .int .u64 tv] 0).drew = wd := ex
  have D1 : Blk wd h_ 35 #[.int .i64 0, .int .i64 h1, .int .i64 4, .int .i64 s, .int .i64 h4, .int .i64 (-20), .int .u32 0, .int .u32 0, .int .u32 0, .int .u64 0, .int .u64 h11, .int .u64 rc, .int .u64 tv] := by rw [← ex2]; exact (BH.out.filled _ rfl).drew
  have RD : Below w.heap.size w wd := by rw [← ex2]; exact (Below.stores (by omega) _ _ _ RF.out).drew
  have HR : Echs wd A8 8 c8 (((rc, tx) :: l).take 8) := by rw [← ex2]; exact echs_kept HE.out HL.out (by omega) (by omega) HFr.out
  clear ex ex2
  have d1_0 : wd.cell? ⟨h_, 0, none⟩ = some (.int .i64 0) := D1.cell 0
  have d1_1 : wd.cell? ⟨h_, 1, none⟩ = some (.int .i64 h1) := D1.cell 1
  have d1_2 : wd.cell? ⟨h_, 2, none⟩ = some (.int .i64 4) := D1.cell 2
  have d1_3 : wd.cell? ⟨h_, 3, none⟩ = some (.int .i64 s) := D1.cell 3
  have d1_4 : wd.cell? ⟨h_, 4, none⟩ = some (.int .i64 h4) := D1.cell 4
  have d1_5 : wd.cell? ⟨h_, 5, none⟩ = some (.int .i64 (-20)) := D1.cell 5
  have d1_6 : wd.cell? ⟨h_, 6, none⟩ = some (.int .u32 0) := D1.cell 6
  have d1_7 : wd.cell? ⟨h_, 7, none⟩ = some (.int .u32 0) := D1.cell 7
  have d1_8 : wd.cell? ⟨h_, 8, none⟩ = some (.int .u32 0) := D1.cell 8
  have d1_9 : wd.cell? ⟨h_, 9, none⟩ = some (.int .u64 0) := D1.cell 9
  have d1_10 : wd.cell? ⟨h_, 10, none⟩ = some (.int .u64 h11) := D1.cell 10
  have d1_11 : wd.cell? ⟨h_, 11, none⟩ = some (.int .u64 rc) := D1.cell 11
  have d1_12 : wd.cell? ⟨h_, 12, none⟩ = some (.int .u64 tv) := D1.cell 12
  go_wp2_with fail
  refine bodyPost_ret (v := .tuple #[.slice A8 8 c8, .agg #[.int .i64 0, .int .i64 h1, .int .i64 4, .int .i64 s, .int .i64 h4, .int .i64 (-20), .int .u32 0, .int .u32 0, .int .u32 0, .int .u64 0, .int .u64 h11, .int .u64 rc, .int .u64 tv], .bool true, .int .i64 0]) (by simp [results, Try.results8, go_sem, *]) rfl ⟨_, _, rfl, HR, HFr2.out, RD⟩
end Go.Proofs.Ytfkckokaclkjnaa
