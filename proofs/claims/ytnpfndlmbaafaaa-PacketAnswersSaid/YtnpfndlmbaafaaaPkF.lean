/- The walk of PacketAnswers. -/
import Derived.Test.YtnpfndlmbaafaaaPkE
import Derived.Test.YtnpfndlmbaafaaaBlk
import Derived.Deep.DeepCutAuto
namespace Go.Proofs.Ytnpfndlmbaafaaa
open Go.RowKit

set_option maxRecDepth 100000 in
set_option maxHeartbeats 4000000 in
theorem packetAnswers_walk (t r x : Nat) (st : Int) (hst : (Lit.int .i64 st).wf = true) (w : World) :
    Calls Try.prog 3 #[.int .u64 t, .int .u64 r, .int .u64 x, .int .i64 st] w fun e w' => e = .returned (.bool true) ∧ Below w.heap.size w w' := by
  obtain ⟨m, hm⟩ : ∃ m, st.tmod 256 = m := ⟨_, rfl⟩
  have hm1 : -256 < m := by have := Int.lt_tmod_of_pos st (b := 256) (by decide); omega
  have hm2 : m < 256 := by have := Int.tmod_lt_of_pos st (b := 256) (by decide); omega
  obtain ⟨s, hs⟩ : ∃ s, (m + 256) % 256 = s := ⟨_, rfl⟩
  have hs0 : 0 ≤ s := by omega
  have hst2 : (m + 256).tmod 256 = s := by rw [Int.tmod_eq_emod_of_nonneg (by omega)]; exact hs
  have hs1 : s ≤ 255 := by omega
  go_enter Try.func3, Try.ntmps3
  go_wp2_with fail
  refine (ask_any t _).mono ?_
  rintro e w1 ⟨rfl, hb1⟩
  have hz1 := hb1.size
  clear hm hs hst2
  go_upto_region 3 with fail
  obtain ⟨wa, g, hwa, hg⟩ : ∃ wa g, wa = w1.alloc (.cells #[.int .i64 0, .int .i64 4, .int .i64 3, .int .i64 0, .int .i64 6, .int .i64 0, .int .u32 0, .int .u32 0, .int .u32 0, .int .u64 0, .int .u64 0, .int .u64 0, .int .u64 t] 25) ∧ g = w1.heap.size := ⟨_, _, rfl, rfl⟩
  rw [← hwa, ← hg]
  have BQ : Blk wa g 25 #[.int .i64 0, .int .i64 4, .int .i64 3, .int .i64 0, .int .i64 6, .int .i64 0, .int .u32 0, .int .u32 0, .int .u32 0, .int .u64 0, .int .u64 0, .int .u64 0, .int .u64 t] := by rw [hwa, hg]; exact Blk.new _ _ _
  have RA : Below w.heap.size w wa := hb1.trans (by rw [hwa]; exact (Below.refl _ _).alloc hz1 _)
  clear hwa hg hb1 hz1
  have kq := BQ.cell
  go_wp2_with fail
  refine (reply_ok 0 4 3 0 6 0 0 0 0 0 0 0 t s r x _ (by decide) rfl hs0 hs1).mono ?_
  rintro e w2 ⟨rfl, hb2⟩
  have BQ2 := BQ.stays hb2
  have hz2 := RA.size
  have R2 : Below w.heap.size w w2 := RA.trans (hb2.mono hz2)
  clear hb2 BQ kq RA hz2
  have hz2 := R2.size
  go_upto_region 4 with fail
  obtain ⟨wb, h, hwb, hh⟩ : ∃ wb h, wb = w2.alloc (.cells #[.int .i64 0, .int .i64 4, .int .i64 4, .int .i64 s, .int .i64 6, .int .i64 (-20), .int .u32 0, .int .u32 0, .int .u32 0, .int .u64 0, .int .u64 t, .int .u64 r, .int .u64 x] 25) ∧ h = w2.heap.size := ⟨_, _, rfl, rfl⟩
  rw [← hwb, ← hh]
  have BR : Blk wb h 25 #[.int .i64 0, .int .i64 4, .int .i64 4, .int .i64 s, .int .i64 6, .int .i64 (-20), .int .u32 0, .int .u32 0, .int .u32 0, .int .u64 0, .int .u64 t, .int .u64 r, .int .u64 x] := by rw [hwb, hh]; exact Blk.new _ _ _
  have BQ : Blk wb g 25 #[.int .i64 0, .int .i64 4, .int .i64 3, .int .i64 0, .int .i64 6, .int .i64 0, .int .u32 0, .int .u32 0, .int .u32 0, .int .u64 0, .int .u64 0, .int .u64 0, .int .u64 t] := BQ2.stays (by rw [hwb]; go_grown)
  have RB : Below w.heap.size w wb := R2.trans (by rw [hwb]; exact (Below.refl _ _).alloc hz2 _)
  have hgh : g < h := by rw [hh]; exact BQ2.lt
  clear hwb hh R2 hz2 BQ2
  go_wp2_with fail
  refine (ask_any 0 _).mono ?_
  rintro e w3 ⟨rfl, hb3⟩
  have BQ3 := BQ.stays hb3
  have BR3 := BR.stays hb3
  have hz3 := RB.size
  have R3 : Below w.heap.size w w3 := RB.trans (hb3.mono hz3)
  clear hb3 BQ BR RB hz3
  have hz3 := R3.size
  go_upto_region 5 with fail
  obtain ⟨wc, z, hwc, hz⟩ : ∃ wc z, wc = w3.alloc (.cells #[.int .i64 0, .int .i64 4, .int .i64 3, .int .i64 0, .int .i64 6, .int .i64 0, .int .u32 0, .int .u32 0, .int .u32 0, .int .u64 0, .int .u64 0, .int .u64 0, .int .u64 0] 25) ∧ z = w3.heap.size := ⟨_, _, rfl, rfl⟩
  rw [← hwc, ← hz]
  have BZ : Blk wc z 25 #[.int .i64 0, .int .i64 4, .int .i64 3, .int .i64 0, .int .i64 6, .int .i64 0, .int .u32 0, .int .u32 0, .int .u32 0, .int .u64 0, .int .u64 0, .int .u64 0, .int .u64 0] := by rw [hwc, hz]; exact Blk.new _ _ _
  have BQ : Blk wc g 25 #[.int .i64 0, .int .i64 4, .int .i64 3, .int .i64 0, .int .i64 6, .int .i64 0, .int .u32 0, .int .u32 0, .int .u32 0, .int .u64 0, .int .u64 0, .int .u64 0, .int .u64 t] := BQ3.stays (by rw [hwc]; go_grown)
  have BR : Blk wc h 25 #[.int .i64 0, .int .i64 4, .int .i64 4, .int .i64 s, .int .i64 6, .int .i64 (-20), .int .u32 0, .int .u32 0, .int .u32 0, .int .u64 0, .int .u64 t, .int .u64 r, .int .u64 x] := BR3.stays (by rw [hwc]; go_grown)
  have RC : Below w.heap.size w wc := R3.trans (by rw [hwc]; exact (Below.refl _ _).alloc hz3 _)
  have hhz : h < z := by rw [hz]; exact BR3.lt
  have hwz : w.heap.size ≤ z := by omega
  clear hwc hz R3 hz3 BQ3 BR3
  have k12 : wc.cell? ⟨z, 12, none⟩ = some (.int .u64 0) := BZ.cell 12
  have f12 := BZ.frozen 12
  go_upto_region 6 with fail
  obtain ⟨wd, hwd⟩ : ∃ wd, wd = wc.setCell ⟨z, 12, none⟩ (.int .u64 t) := ⟨_, rfl⟩
  rw [← hwd]
  have BZ2 : Blk wd z 25 #[.int .i64 0, .int .i64 4, .int .i64 3, .int .i64 0, .int .i64 6, .int .i64 0, .int .u32 0, .int .u32 0, .int .u32 0, .int .u64 0, .int .u64 0, .int .u64 0, .int .u64 t] := by rw [hwd]; exact BZ.put 12 _
  have BQ2 : Blk wd g 25 #[.int .i64 0, .int .i64 4, .int .i64 3, .int .i64 0, .int .i64 6, .int .i64 0, .int .u32 0, .int .u32 0, .int .u32 0, .int .u64 0, .int .u64 0, .int .u64 0, .int .u64 t] := by rw [hwd]; exact BQ.far (p := ⟨z, 12, none⟩) (by simp; omega) _
  have BR2 : Blk wd h 25 #[.int .i64 0, .int .i64 4, .int .i64 4, .int .i64 s, .int .i64 6, .int .i64 (-20), .int .u32 0, .int .u32 0, .int .u32 0, .int .u64 0, .int .u64 t, .int .u64 r, .int .u64 x] := by rw [hwd]; exact BR.far (p := ⟨z, 12, none⟩) (by simp; omega) _
  have RD : Below w.heap.size w wd := by rw [hwd]; exact RC.setCell (p := ⟨z, 12, none⟩) hwz _
  clear hwd BZ BQ BR RC k12 f12
  have hzd := RD.size
  have kr := BR2.cell
  go_wp2_with fail
  refine (reply_mode 0 4 4 s 6 (-20) 0 0 0 0 t r x s r x _ (by unfold HdOk; omega) (by decide)).mono ?_
  rintro e w4 ⟨rfl, hb4⟩
  have BZ4 := BZ2.stays hb4
  have BQ4 := BQ2.stays hb4
  have BR4 := BR2.stays hb4
  have R4 : Below w.heap.size w w4 := RD.trans (hb4.mono hzd)
  clear hb4 BZ2 BQ2 BR2 RD hzd kr
  have hz4 := R4.size
  go_upto_region 7 with fail
  obtain ⟨we, y, hwe, hy⟩ : ∃ we y, we = w4.alloc (.cells #[.int .i64 0, .int .i64 0, .int .i64 0, .int .i64 0, .int .i64 0, .int .i64 0, .int .u32 0, .int .u32 0, .int .u32 0, .int .u64 0, .int .u64 0, .int .u64 0, .int .u64 0] 25) ∧ y = w4.heap.size := ⟨_, _, rfl, rfl⟩
  rw [← hwe, ← hy]
  have BZ := BZ4.stays (w' := we) (by rw [hwe]; go_grown)
  have BQ := BQ4.stays (w' := we) (by rw [hwe]; go_grown)
  have BR := BR4.stays (w' := we) (by rw [hwe]; go_grown)
  have RE : Below w.heap.size w we := R4.trans (by rw [hwe]; exact (Below.refl _ _).alloc hz4 _)
  clear hwe hy R4 hz4 BZ4 BQ4 BR4
  go_wp2_with fail
  refine (pkKnown _).mono ?_
  rintro e w5 ⟨rfl, hb5⟩
  have kz := (BZ.stays hb5).cell
  have kq := (BQ.stays hb5).cell
  have kr := (BR.stays hb5).cell
  have R5 := RE.trans (hb5.mono RE.size)
  clear BZ BQ BR hb5 RE
  go_wp2
  go_ret
  exact ⟨rfl, R5⟩
theorem packetAnswers_walk' (a0 a1 a2 a3 : Int) (w0 : (Lit.int .u64 a0).wf = true) (w1 : (Lit.int .u64 a1).wf = true) (w2 : (Lit.int .u64 a2).wf = true) (w3 : (Lit.int .i64 a3).wf = true) (w : World) :
    Calls Try.prog 3 #[.int .u64 a0, .int .u64 a1, .int .u64 a2, .int .i64 a3] w fun e w' => e = .returned (.bool true) ∧ Below w.heap.size w w' := by
  obtain ⟨t, rfl⟩ := Int.eq_ofNat_of_zero_le (bounds_u64 w0).1
  obtain ⟨r, rfl⟩ := Int.eq_ofNat_of_zero_le (bounds_u64 w1).1
  obtain ⟨x, rfl⟩ := Int.eq_ofNat_of_zero_le (bounds_u64 w2).1
  exact packetAnswers_walk t r x a3 w3 w
end Go.Proofs.Ytnpfndlmbaafaaa
