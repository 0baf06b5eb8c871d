/- era.Unfold, Only where one era serves. -/
import Derived.Test.YtfkckokaclkjnaaEraG
import Derived.Test.YtfkckokaclkjnaaApp
namespace Go.Proofs.Ytfkckokaclkjnaa
open Go Go.RowKit

theorem infoSpan : (Try.prog.info? 31).map (fun i => (i.zero, i.size, i.bytes)) = some (some (.agg #[.int .i64 0, .int .i64 0]), 2, 16) := by kernel_rfl
theorem rd_span (w : World) (e : TypeId) (a b : Value) : Rd (w.alloc (.cells #[a, b] e)) 2 (some ⟨w.heap.size, 0, none⟩) 1 1 [a, b] := by
  refine ⟨by simp, by omega, by unfold maxLen; omega, ?_⟩
  intro i u hu
  refine ⟨w.heap.size, 0, rfl, ?_⟩
  rw [cell_of_row _ _ _ _ _ _ (heap_alloc_new w _)]
  match i, hu with
  | 0, hu => simpa using hu
  | 1, hu => simpa using hu
set_option maxRecDepth 100000 in
set_option maxHeartbeats 4000000 in
theorem unfold_one (lo hi t : Int) (w : World) (hs : spanOk lo hi) (h1 : lo ≤ t) (h2 : t ≤ hi) (hw : hi - lo < 4503599627370496) : Calls Try.prog 27 #[.agg #[.int .i64 lo, .int .i64 hi], .int .u64 ((eraD t * 4096 : Nat) : Int)] w fun e w' => ∃ A c, e = .returned (.tuple #[.slice A 1 c, .int .i64 0]) ∧ Rd w' 2 A 1 c [.int .i64 t, .int .i64 t] ∧ Below w.heap.size w w' := by
  have ht : tickOk t := by unfold spanOk tickOk at hs; unfold tickOk; omega
  obtain ⟨D, hD⟩ : ∃ D, eraD t = D := ⟨_, rfl⟩
  have hDl := eraD_lt t
  have hDe := eraD_eq t
  obtain ⟨q, hq⟩ : ∃ q, t / 4503599627370496 = q := ⟨_, rfl⟩
  rw [hD] at hDl hDe ⊢
  rw [hq] at hDe
  have hE := era_one h1 h2 hw hDe (by omega) (by omega)
  have CD := Lib.hid (fun w => down_ok D w hDl)
  have CU := Lib.hid (fun w => up_ok D w hDl)
  have CS := Lib.hid (fun w => stamp_ok q t D w hDl hDe ht)
  have dd := decide_eq_true hs
  unfold spanOk tickOk at hs
  unfold tickOk at ht
  obtain ⟨A1, hA1⟩ : ∃ A1, lo - (D : Int) = A1 := ⟨_, rfl⟩
  obtain ⟨A2, hA2⟩ : ∃ A2, A1 + 4503599627370496 = A2 := ⟨_, rfl⟩
  obtain ⟨A3, hA3⟩ : ∃ A3, A2 - 1 = A3 := ⟨_, rfl⟩
  obtain ⟨B1, hB1⟩ : ∃ B1, hi - (D : Int) = B1 := ⟨_, rfl⟩
  have hE1 : A3 / 4503599627370496 = q := by rw [← hA3, ← hA2, ← hA1]; rw [← hE.1]; congr 1; omega
  have hE2 : B1 / 4503599627370496 = q := by rw [← hB1]; exact hE.2
  have hw1 : IntKind.i64.wrap A1 = A1 := IntWalk.i64_in _ (by omega)
  have hw2 : IntKind.i64.wrap A2 = A2 := IntWalk.i64_in _ (by omega)
  have hw3 : IntKind.i64.wrap A3 = A3 := IntWalk.i64_in _ (by omega)
  have hw4 : IntKind.i64.wrap B1 = B1 := IntWalk.i64_in _ (by omega)
  obtain ⟨W, hW⟩ : ∃ W, D * 4096 = W := ⟨_, rfl⟩
  rw [hW] at CD CU CS ⊢
  obtain ⟨i0, hin, hz0, hz1, hz2⟩ := info_parts infoSpan
  have hwq : wrap64 q = q := by unfold wrap64; omega
  clear hE hq hD hDl hDe hs h1 h2 hw ht
  clear hW
  go_enter Try.func27, Try.ntmps27
  go_upto_region 1 with fail
  obtain ⟨x1, s_, ex1, es_⟩ : ∃ x1 s_, x1 = w.alloc (.cells #[.int .i64 lo, .int .i64 hi] 31) ∧ s_ = w.heap.size := ⟨_, _, rfl, rfl⟩
  rw [← ex1, ← es_]
  have hbx : Below w.heap.size w x1 := by rw [ex1]; exact below_alloc1 _ _
  have BS := Lib.hid (show Blk x1 s_ 31 #[.int .i64 lo, .int .i64 hi] by rw [ex1, es_]; exact blk_new1_0 _ _ _ )
  have R2 := Lib.hid hbx
  have hz1' := R2.out.size
  clear hbx ex1 es_
  have k0 : x1.cell? ⟨s_, 0, none⟩ = some (.int .i64 lo) := BS.out.cell 0
  have k1 : x1.cell? ⟨s_, 1, none⟩ = some (.int .i64 hi) := BS.out.cell 1
  go_wp2_with fail
  refine (intervalV lo hi _).mono ?_
  rintro e y1 ⟨rfl, hb⟩
  clear k0 k1
  have hbx : Below x1.heap.size x1 y1 := below_via (by go_grown) hb (by first | (simp; done) | (simp; omega))
  have BS := Lib.hid (BS.out.stays hbx)
  have R4 := Lib.hid (R2.out.trans (hbx.mono hz1'))
  have hz2' := R4.out.size
  clear hb hbx R2 hz1'
  rw [dd]
  go_upto_region 3 with fail
  have k0 : y1.cell? ⟨s_, 0, none⟩ = some (.int .i64 lo) := BS.out.cell 0
  have k1 : y1.cell? ⟨s_, 1, none⟩ = some (.int .i64 hi) := BS.out.cell 1
  go_quiet (first | (go_at_call 31; exact Calls.quiet_of_same ((CU.out _).mono (fun e q h => ⟨h.1, h.2.symm⟩))) | (go_at_call 32; exact Calls.quiet_of_same ((CD.out _).mono (fun e q h => ⟨h.1, h.2.symm⟩))))
  clear k0 k1
  obtain ⟨y2, ey⟩ : ∃ y2, y2 = y1.drewN nq := ⟨_, rfl⟩
  rw [← ey]
  have R5 := Lib.hid (show Below w.heap.size w y2 by rw [ey]; exact below_draws R4.out nq)
  clear ey R4 hz2' BS
  go_wp2_with fail
  go_loopw [8, 35] (fun o i wr => ∃ (k : Nat) (A : Option Addr) (c : Nat), k ≤ 1 ∧ i = .int .i64 k ∧ o = .slice A k c ∧ Hid (wr.ownsRow w.heap.size 31 2 (.slice A k c) k (List.replicate (2 * k) (.int .i64 t))) ∧ Below w.heap.size w wr) (fun _ i _ => 1 - (intOf i).toNat)
  case atStart => exact ⟨0, none, 0, by omega, rfl, rfl, own_nil _ _ _ _, R5.out⟩
  case round =>
    obtain ⟨k, A, c, hk, rfl, rfl, HO, hbr⟩ := hrel
    have hsr := hbr.size
    rcases (by omega : k = 0 ∨ k = 1) with rfl | rfl
    · go_wp2_with fail
      refine (CS.out _).mono ?_
      rintro e y3 ⟨rfl, hb⟩
      have HO := Lib.hid (own_below HO.out hb)
      have R6 := Lib.hid (hbr.trans (hb.mono hsr))
      have hz6 := R6.out.size
      clear hb
      have HOw := Lib.hid (own_alloc HO.out (.cells #[.int .i64 t, .int .i64 t] 31))
      go_wp2_with (at_builtin; refine wpList_append_rd rfl _ _ 75 rfl i0 _ 16 Try.underlying75 hin hz0 hz1 hz2 rfl (by decide) rfl HOw.out rfl (rd_span _ _ _ _) (by simp [Value.oneCell']) ?c1 ?c2 ?c3 ?_)
      case c1 => unfold maxLen; omega
      case c2 => omega
      case c3 => simp; omega
      intro A8 c8 w8 hown8 hg8 hb8
      have H8 := Lib.hid hown8
      have R7 := Lib.hid ((R6.out.trans ((below_alloc1 _ _).mono hz6)).trans hb8)
      clear hown8 hg8
      go_wp2
      go_roundw
      case rel =>
        refine ⟨0 + 1, _, _, by omega, by rfl, rfl, H8.out, R7.out⟩
      case measure => simp [intOf]
    · go_wp2
      go_returns
      exact ⟨A, c, rfl, own_rd HO.out, hbr⟩
set_option maxRecDepth 100000 in
set_option maxHeartbeats 4000000 in
theorem only_one (lo hi t : Int) (w : World) (hs : spanOk lo hi) (h1 : lo ≤ t) (h2 : t ≤ hi) (hw : hi - lo < 4503599627370496) : Calls Try.prog 20 #[.agg #[.int .i64 lo, .int .i64 hi], .int .u64 ((eraD t * 4096 : Nat) : Int)] w fun e w' => e = .returned (.tuple #[.agg #[.int .i64 t, .int .i64 t], .int .i64 0]) ∧ Below w.heap.size w w' := by
  have CU := Lib.hid (fun w => unfold_one lo hi t w hs h1 h2 hw)
  obtain ⟨W, hW⟩ : ∃ W, eraD t * 4096 = W := ⟨_, rfl⟩
  rw [hW] at CU ⊢
  clear hW hs h1 h2 hw
  go_enter Try.func20, Try.ntmps20
  go_upto_region 1 with fail
  obtain ⟨x1, s_, h_, ex1, es_, eh_⟩ : ∃ x1 s_ h_, x1 = (w.alloc (.cells #[.int .i64 lo, .int .i64 hi] 31)).alloc (.cells #[.int .i64 0, .int .i64 0] 31) ∧ s_ = w.heap.size ∧ h_ = w.heap.size + 1 := ⟨_, _, _, rfl, rfl, rfl⟩
  rw [← ex1, ← eh_, ← es_]
  have hbx : Below w.heap.size w x1 := by rw [ex1]; exact below_alloc2 _ _ _
  have g_H : w.heap.size ≤ h_ := by omega
  have BS := Lib.hid (show Blk x1 s_ 31 #[.int .i64 lo, .int .i64 hi] by rw [ex1, es_]; exact blk_new2_0 _ _ _ _ _)
  have BH := Lib.hid (show Blk x1 h_ 31 #[.int .i64 0, .int .i64 0] by rw [ex1, eh_]; exact blk_new2_1 _ _ _ _ _)
  have R2 := Lib.hid hbx
  have hz1' := R2.out.size
  clear hbx ex1 es_ eh_
  have k0 : x1.cell? ⟨s_, 0, none⟩ = some (.int .i64 lo) := BS.out.cell 0
  have k1 : x1.cell? ⟨s_, 1, none⟩ = some (.int .i64 hi) := BS.out.cell 1
  go_wp2_with fail
  refine (CU.out _).mono ?_
  rintro e y1 ⟨A, c, rfl, hr, hb⟩
  clear k0 k1
  have hbx : Below x1.heap.size x1 y1 := below_via (by go_grown) hb (by first | (simp; done) | (simp; omega))
  have BH := Lib.hid (BH.out.stays hbx)
  have R4 := Lib.hid (R2.out.trans (hbx.mono hz1'))
  clear hb hbx R2 hz1' BS
  obtain ⟨b, off, rfl, c0⟩ := hr.2.2.2 0 (.int .i64 t) rfl
  obtain ⟨b', off', he, c1⟩ := hr.2.2.2 1 (.int .i64 t) rfl
  obtain ⟨rfl, rfl⟩ : b' = b ∧ off' = off := by simp at he; exact ⟨he.1.symm, he.2.symm⟩
  clear he hr
  have d0 : y1.cell? ⟨b', off', none⟩ = some (.int .i64 t) := by simpa using c0
  have d1 : y1.cell? ⟨b', off' + 1, none⟩ = some (.int .i64 t) := c1
  clear c0 c1
  have cH := BH.out.cell
  have zH := BH.out.frozen
  go_wp2
  clear zH cH
  generalize hwd : World.setCell _ ⟨h_, 1, none⟩ _ = wd
  have hwd2 : stores y1 h_ [.int .i64 t, .int .i64 t] 0 = wd := hwd
  have D1 : Blk wd h_ 31 #[.int .i64 t, .int .i64 t] := by rw [← hwd2]; exact BH.out.filled _ rfl
  have RD : Below w.heap.size w wd := by rw [← hwd2]; exact Below.stores (by omega) _ _ _ R4.out
  clear hwd hwd2
  have d1_0 : wd.cell? ⟨h_, 0, none⟩ = some (.int .i64 t) := D1.cell 0
  have d1_1 : wd.cell? ⟨h_, 1, none⟩ = some (.int .i64 t) := D1.cell 1
  refine bodyPost_ret (v := .tuple #[.agg #[.int .i64 t, .int .i64 t], .int .i64 0]) (by simp [results, Try.results20, go_sem, *]) rfl ⟨rfl, RD⟩
end Go.Proofs.Ytfkckokaclkjnaa
