/- packet.Decode: its errors. -/
import Derived.Test.YtnpfndlmbaafaaaPkI0
import Derived.Test.YtnpfndlmbaafaaaStores
namespace Go.Proofs.Ytnpfndlmbaafaaa
open Go.RowKit

set_option maxRecDepth 100000 in
set_option maxHeartbeats 4000000 in
theorem dec_short (A : Option Addr) (n c : Nat) (l : List UInt8) (w : World) (hv : Bytes w A n c l) (h1 : n < 48) :
    Calls Try.prog 29 #[.slice A n c] w fun e w' => e = .returned (.tuple #[.agg #[.int .i64 0, .int .i64 0, .int .i64 0, .int .i64 0, .int .i64 0, .int .i64 0, .int .u32 0, .int .u32 0, .int .u32 0, .int .u64 0, .int .u64 0, .int .u64 0, .int .u64 0], .slice none 0 0, .int .i64 1]) ∧ Below w.heap.size w w' := by
  have q1 := hv.le
  have q2 := hv.cap
  have h1i : (n : Int) < 48 := by omega
  clear hv
  go_enter Try.func29, Try.ntmps29
  go_upto_region 1 with fail
  obtain ⟨x1, h_, ex1, eh_⟩ : ∃ x1 h_, x1 = w.alloc (.cells #[.int .i64 0, .int .i64 0, .int .i64 0, .int .i64 0, .int .i64 0, .int .i64 0, .int .u32 0, .int .u32 0, .int .u32 0, .int .u64 0, .int .u64 0, .int .u64 0, .int .u64 0] 25) ∧ h_ = w.heap.size := ⟨_, _, rfl, rfl⟩
  rw [← ex1, ← eh_]
  have hbx : Below w.heap.size w x1 := by rw [ex1]; exact below_alloc1 _ _ 
  have g_H : w.heap.size ≤ h_ := by rw [eh_]; exact Nat.le_refl _
  have BH := Lib.hid (show Blk x1 h_ 25 #[.int .i64 0, .int .i64 0, .int .i64 0, .int .i64 0, .int .i64 0, .int .i64 0, .int .u32 0, .int .u32 0, .int .u32 0, .int .u64 0, .int .u64 0, .int .u64 0, .int .u64 0] by rw [ex1, eh_]; exact blk_new1_0 _ _ _ )
  have R2 := Lib.hid hbx
  have hz_x1 := R2.out.size
  clear hbx ex1 eh_
  have cH := BH.out.cell
  have zH := BH.out.frozen
  go_wp2
  clear zH cH
  generalize hwd : World.setCell _ ⟨h_, 12, none⟩ _ = wd
  have hwd2 : stores x1 h_ [.int .i64 0, .int .i64 0, .int .i64 0, .int .i64 0, .int .i64 0, .int .i64 0, .int .u32 0, .int .u32 0, .int .u32 0, .int .u64 0, .int .u64 0, .int .u64 0, .int .u64 0] 0 = wd := hwd
  have D1 : Blk wd h_ 25 #[.int .i64 0, .int .i64 0, .int .i64 0, .int .i64 0, .int .i64 0, .int .i64 0, .int .u32 0, .int .u32 0, .int .u32 0, .int .u64 0, .int .u64 0, .int .u64 0, .int .u64 0] := by rw [← hwd2]; exact BH.out.filled _ rfl
  have RD : Below w.heap.size w wd := by rw [← hwd2]; exact Below.stores (by omega) _ _ _ R2.out
  clear hwd hwd2
  have d1_0 : wd.cell? ⟨h_, 0, none⟩ = some (.int .i64 0) := D1.cell 0
  have d1_1 : wd.cell? ⟨h_, 1, none⟩ = some (.int .i64 0) := D1.cell 1
  have d1_2 : wd.cell? ⟨h_, 2, none⟩ = some (.int .i64 0) := D1.cell 2
  have d1_3 : wd.cell? ⟨h_, 3, none⟩ = some (.int .i64 0) := D1.cell 3
  have d1_4 : wd.cell? ⟨h_, 4, none⟩ = some (.int .i64 0) := D1.cell 4
  have d1_5 : wd.cell? ⟨h_, 5, none⟩ = some (.int .i64 0) := D1.cell 5
  have d1_6 : wd.cell? ⟨h_, 6, none⟩ = some (.int .u32 0) := D1.cell 6
  have d1_7 : wd.cell? ⟨h_, 7, none⟩ = some (.int .u32 0) := D1.cell 7
  have d1_8 : wd.cell? ⟨h_, 8, none⟩ = some (.int .u32 0) := D1.cell 8
  have d1_9 : wd.cell? ⟨h_, 9, none⟩ = some (.int .u64 0) := D1.cell 9
  have d1_10 : wd.cell? ⟨h_, 10, none⟩ = some (.int .u64 0) := D1.cell 10
  have d1_11 : wd.cell? ⟨h_, 11, none⟩ = some (.int .u64 0) := D1.cell 11
  have d1_12 : wd.cell? ⟨h_, 12, none⟩ = some (.int .u64 0) := D1.cell 12
  try go_wp2_with fail
  refine bodyPost_ret (v := .tuple #[.agg #[.int .i64 0, .int .i64 0, .int .i64 0, .int .i64 0, .int .i64 0, .int .i64 0, .int .u32 0, .int .u32 0, .int .u32 0, .int .u64 0, .int .u64 0, .int .u64 0, .int .u64 0], .slice none 0 0, .int .i64 1]) (by simp [results, Try.results29, go_sem, *]) rfl ⟨rfl, RD⟩
set_option maxRecDepth 100000 in
set_option maxHeartbeats 4000000 in
theorem dec_long (A : Option Addr) (n c : Nat) (l : List UInt8) (w : World) (hv : Bytes w A n c l) (h1 : 1280 < n) :
    Calls Try.prog 29 #[.slice A n c] w fun e w' => e = .returned (.tuple #[.agg #[.int .i64 0, .int .i64 0, .int .i64 0, .int .i64 0, .int .i64 0, .int .i64 0, .int .u32 0, .int .u32 0, .int .u32 0, .int .u64 0, .int .u64 0, .int .u64 0, .int .u64 0], .slice none 0 0, .int .i64 2]) ∧ Below w.heap.size w w' := by
  have q1 := hv.le
  have q2 := hv.cap
  have h1i : ¬ (n : Int) < 48 := by omega
  have h2i : (n : Int) > 1280 := by omega
  clear hv
  go_enter Try.func29, Try.ntmps29
  go_upto_region 1 with fail
  obtain ⟨x1, h_, ex1, eh_⟩ : ∃ x1 h_, x1 = w.alloc (.cells #[.int .i64 0, .int .i64 0, .int .i64 0, .int .i64 0, .int .i64 0, .int .i64 0, .int .u32 0, .int .u32 0, .int .u32 0, .int .u64 0, .int .u64 0, .int .u64 0, .int .u64 0] 25) ∧ h_ = w.heap.size := ⟨_, _, rfl, rfl⟩
  rw [← ex1, ← eh_]
  have hbx : Below w.heap.size w x1 := by rw [ex1]; exact below_alloc1 _ _ 
  have g_H : w.heap.size ≤ h_ := by rw [eh_]; exact Nat.le_refl _
  have BH := Lib.hid (show Blk x1 h_ 25 #[.int .i64 0, .int .i64 0, .int .i64 0, .int .i64 0, .int .i64 0, .int .i64 0, .int .u32 0, .int .u32 0, .int .u32 0, .int .u64 0, .int .u64 0, .int .u64 0, .int .u64 0] by rw [ex1, eh_]; exact blk_new1_0 _ _ _ )
  have R2 := Lib.hid hbx
  have hz_x1 := R2.out.size
  clear hbx ex1 eh_
  have cH := BH.out.cell
  have zH := BH.out.frozen
  go_wp2
  clear zH cH
  generalize hwd : World.setCell _ ⟨h_, 12, none⟩ _ = wd
  have hwd2 : stores x1 h_ [.int .i64 0, .int .i64 0, .int .i64 0, .int .i64 0, .int .i64 0, .int .i64 0, .int .u32 0, .int .u32 0, .int .u32 0, .int .u64 0, .int .u64 0, .int .u64 0, .int .u64 0] 0 = wd := hwd
  have D1 : Blk wd h_ 25 #[.int .i64 0, .int .i64 0, .int .i64 0, .int .i64 0, .int .i64 0, .int .i64 0, .int .u32 0, .int .u32 0, .int .u32 0, .int .u64 0, .int .u64 0, .int .u64 0, .int .u64 0] := by rw [← hwd2]; exact BH.out.filled _ rfl
  have RD : Below w.heap.size w wd := by rw [← hwd2]; exact Below.stores (by omega) _ _ _ R2.out
  clear hwd hwd2
  have d1_0 : wd.cell? ⟨h_, 0, none⟩ = some (.int .i64 0) := D1.cell 0
  have d1_1 : wd.cell? ⟨h_, 1, none⟩ = some (.int .i64 0) := D1.cell 1
  have d1_2 : wd.cell? ⟨h_, 2, none⟩ = some (.int .i64 0) := D1.cell 2
  have d1_3 : wd.cell? ⟨h_, 3, none⟩ = some (.int .i64 0) := D1.cell 3
  have d1_4 : wd.cell? ⟨h_, 4, none⟩ = some (.int .i64 0) := D1.cell 4
  have d1_5 : wd.cell? ⟨h_, 5, none⟩ = some (.int .i64 0) := D1.cell 5
  have d1_6 : wd.cell? ⟨h_, 6, none⟩ = some (.int .u32 0) := D1.cell 6
  have d1_7 : wd.cell? ⟨h_, 7, none⟩ = some (.int .u32 0) := D1.cell 7
  have d1_8 : wd.cell? ⟨h_, 8, none⟩ = some (.int .u32 0) := D1.cell 8
  have d1_9 : wd.cell? ⟨h_, 9, none⟩ = some (.int .u64 0) := D1.cell 9
  have d1_10 : wd.cell? ⟨h_, 10, none⟩ = some (.int .u64 0) := D1.cell 10
  have d1_11 : wd.cell? ⟨h_, 11, none⟩ = some (.int .u64 0) := D1.cell 11
  have d1_12 : wd.cell? ⟨h_, 12, none⟩ = some (.int .u64 0) := D1.cell 12
  try go_wp2_with fail
  refine bodyPost_ret (v := .tuple #[.agg #[.int .i64 0, .int .i64 0, .int .i64 0, .int .i64 0, .int .i64 0, .int .i64 0, .int .u32 0, .int .u32 0, .int .u32 0, .int .u64 0, .int .u64 0, .int .u64 0, .int .u64 0], .slice none 0 0, .int .i64 2]) (by simp [results, Try.results29, go_sem, *]) rfl ⟨rfl, RD⟩
set_option maxRecDepth 100000 in
set_option maxHeartbeats 4000000 in
theorem dec_form (A : Option Addr) (n c : Nat) (l : List UInt8) (w : World) (hv : Bytes w A n c l) (h1 : 48 ≤ n) (h2 : n ≤ 1280) (hver : ¬ (dcV l = 3 ∨ dcV l = 4)) :
    Calls Try.prog 29 #[.slice A n c] w fun e w' => e = .returned (.tuple #[.agg #[.int .i64 0, .int .i64 0, .int .i64 0, .int .i64 0, .int .i64 0, .int .i64 0, .int .u32 0, .int .u32 0, .int .u32 0, .int .u64 0, .int .u64 0, .int .u64 0, .int .u64 0], .slice none 0 0, .int .i64 3]) ∧ Below w.heap.size w w' := by
  have q1 := hv.le
  have q2 := hv.cap
  have h1i : ¬ (n : Int) < 48 := by omega
  have h2i : ¬ (n : Int) > 1280 := by omega
  have HV := Lib.hid hv
  have HL := Lib.hid hv.len
  clear hv
  have y0 := byteAt_lt l 0
  have y1 := byteAt_lt l 1
  have y2 := byteAt_lt l 2
  have y3 := byteAt_lt l 3
  obtain ⟨a, ha⟩ : ∃ a, dcL l = a := ⟨_, rfl⟩
  obtain ⟨v, hv⟩ : ∃ v, dcV l = v := ⟨_, rfl⟩
  obtain ⟨m, hm⟩ : ∃ m, dcM l = m := ⟨_, rfl⟩
  obtain ⟨s, hs⟩ : ∃ s, byteAt l 1 = s := ⟨_, rfl⟩
  obtain ⟨p, hp⟩ : ∃ p, sgnB (byteAt l 2) = p := ⟨_, rfl⟩
  obtain ⟨q, hq⟩ : ∃ q, sgnB (byteAt l 3) = q := ⟨_, rfl⟩
  have wp := sgnB_wrap _ y2
  have wq := sgnB_wrap _ y3
  have bp := sgnB_in _ y2
  have bq := sgnB_in _ y3
  have E1 := Lib.hid hs
  have ha2 : byteAt l 0 / 64 = a := ha
  have hv2 : byteAt l 0 / 8 % 8 = v := hv
  have hm2 : byteAt l 0 % 8 = m := hm
  rw [hv] at hver
  rw [hs] at y1
  rw [hp] at wp bp
  rw [hq] at wq bq
  clear ha hv hm
  obtain ⟨x0, hx0⟩ : ∃ x, byteAt l 0 = x := ⟨_, rfl⟩
  obtain ⟨x2, hx2⟩ : ∃ x, byteAt l 2 = x := ⟨_, rfl⟩
  obtain ⟨x3, hx3⟩ : ∃ x, byteAt l 3 = x := ⟨_, rfl⟩
  have E0 := Lib.hid hx0
  have E2 := Lib.hid hx2
  have E3 := Lib.hid hx3
  rw [hx0] at y0 ha2 hv2 hm2
  rw [hx2] at wp y2
  rw [hx3] at wq y3
  have n7 := and7 (x0 / 8) (by omega)
  have m7 := and7 x0 (by omega)
  rw [hv2] at n7
  rw [hm2] at m7
  have n7' : bits .and .i64 ((x0 : Int) / 8) 7 = (v : Int) := n7
  have ha' : (x0 : Int) / 64 = (a : Int) := by omega
  have wx0 : IntKind.i64.wrap (x0 : Int) = (x0 : Int) := IntWalk.i64_in _ (by omega)
  have ws : IntKind.i64.wrap (s : Int) = (s : Int) := IntWalk.i64_in _ (by omega)
  have wp2 : IntKind.i64.wrap p = p := IntWalk.i64_in _ (by omega)
  have wq2 : IntKind.i64.wrap q = q := IntWalk.i64_in _ (by omega)
  clear hx0 hx2 hx3 hs hp hq ha2 hv2 hm2 n7
  go_enter Try.func29, Try.ntmps29
  go_upto_region 6 with fail
  obtain ⟨wa, hb, rb, hwa, hh, hr⟩ : ∃ wa hb rb, wa = (w.alloc (.cells #[.int .i64 0, .int .i64 0, .int .i64 0, .int .i64 0, .int .i64 0, .int .i64 0, .int .u32 0, .int .u32 0, .int .u32 0, .int .u64 0, .int .u64 0, .int .u64 0, .int .u64 0] 25)).alloc (.cells #[.slice A n c] 99) ∧ hb = w.heap.size ∧ rb = w.heap.size + 1 := ⟨_, _, _, rfl, rfl, rfl⟩
  rw [← hwa, ← hr, ← hh]
  have D : DS w hb rb l 0 #[.int .i64 0, .int .i64 0, .int .i64 0, .int .i64 0, .int .i64 0, .int .i64 0, .int .u32 0, .int .u32 0, .int .u32 0, .int .u64 0, .int .u64 0, .int .u64 0, .int .u64 0] wa := by
    subst hwa hh hr
    exact ⟨blk_new2_0 _ _ _ _ _, ⟨A, n, c, blk_new2_1 _ _ _ _ _, by simpa using HV.out, by simpa using HL.out.symm⟩, below_alloc2 _ _ _, by omega, by omega, by omega⟩
  clear hwa hh hr
  go_wp2_with fail
  refine (D.next 1 (by rw [HL.out]; omega)).mono ?_
  rintro e w1 ⟨rfl, D1⟩
  rw [be64_drop1, E0.out]
  have k0 : w1.cell? ⟨hb, 0, none⟩ = some (.int .i64 0) := D1.hd.cell 0
  have k1 : w1.cell? ⟨hb, 1, none⟩ = some (.int .i64 0) := D1.hd.cell 1
  have k2 : w1.cell? ⟨hb, 2, none⟩ = some (.int .i64 0) := D1.hd.cell 2
  have f0 := D1.hd.frozen 0
  have f1 := D1.hd.frozen 1
  have f2 := D1.hd.frozen 2
  go_upto_region 9 with fail
  obtain ⟨w2, hw2⟩ : ∃ w2, w2 = ((w1.setCell ⟨hb, 0, none⟩ (.int .i64 a)).setCell ⟨hb, 1, none⟩ (.int .i64 v)).setCell ⟨hb, 2, none⟩ (.int .i64 m) := ⟨_, rfl⟩
  rw [← hw2]
  have D2 : DS w hb rb l 1 #[.int .i64 a, .int .i64 v, .int .i64 m, .int .i64 0, .int .i64 0, .int .i64 0, .int .u32 0, .int .u32 0, .int .u32 0, .int .u64 0, .int .u64 0, .int .u64 0, .int .u64 0] w2 := by
    rw [hw2]; exact ((D1.set 0 (.int .i64 a)).set 1 (.int .i64 v)).set 2 (.int .i64 m)
  clear hw2 D D1 k0 k1 k2 f0 f1 f2
  have k1 : w2.cell? ⟨hb, 1, none⟩ = some (.int .i64 v) := D2.hd.cell 1
  have hv4 : ((v : Int) != 4) = true := by simp; omega
  have hv3 : ((v : Int) != 3) = true := by simp; omega
  have BH := Lib.hid D2.hd
  have RR := Lib.hid D2.below
  have gg := D2.ge1
  have zH := D2.hd.frozen
  have cH := D2.hd.cell
  clear D2 hver
  go_wp2
  clear zH cH
  generalize hwd : World.setCell _ ⟨hb, 12, none⟩ _ = wd
  have hwd2 : stores w2 hb [.int .i64 0, .int .i64 0, .int .i64 0, .int .i64 0, .int .i64 0, .int .i64 0, .int .u32 0, .int .u32 0, .int .u32 0, .int .u64 0, .int .u64 0, .int .u64 0, .int .u64 0] 0 = wd := hwd
  have D1 : Blk wd hb 25 #[.int .i64 0, .int .i64 0, .int .i64 0, .int .i64 0, .int .i64 0, .int .i64 0, .int .u32 0, .int .u32 0, .int .u32 0, .int .u64 0, .int .u64 0, .int .u64 0, .int .u64 0] := by rw [← hwd2]; exact BH.out.filled _ rfl
  have RD : Below w.heap.size w wd := by rw [← hwd2]; exact Below.stores (by omega) _ _ _ RR.out
  clear hwd hwd2
  have d1_0 : wd.cell? ⟨hb, 0, none⟩ = some (.int .i64 0) := D1.cell 0
  have d1_1 : wd.cell? ⟨hb, 1, none⟩ = some (.int .i64 0) := D1.cell 1
  have d1_2 : wd.cell? ⟨hb, 2, none⟩ = some (.int .i64 0) := D1.cell 2
  have d1_3 : wd.cell? ⟨hb, 3, none⟩ = some (.int .i64 0) := D1.cell 3
  have d1_4 : wd.cell? ⟨hb, 4, none⟩ = some (.int .i64 0) := D1.cell 4
  have d1_5 : wd.cell? ⟨hb, 5, none⟩ = some (.int .i64 0) := D1.cell 5
  have d1_6 : wd.cell? ⟨hb, 6, none⟩ = some (.int .u32 0) := D1.cell 6
  have d1_7 : wd.cell? ⟨hb, 7, none⟩ = some (.int .u32 0) := D1.cell 7
  have d1_8 : wd.cell? ⟨hb, 8, none⟩ = some (.int .u32 0) := D1.cell 8
  have d1_9 : wd.cell? ⟨hb, 9, none⟩ = some (.int .u64 0) := D1.cell 9
  have d1_10 : wd.cell? ⟨hb, 10, none⟩ = some (.int .u64 0) := D1.cell 10
  have d1_11 : wd.cell? ⟨hb, 11, none⟩ = some (.int .u64 0) := D1.cell 11
  have d1_12 : wd.cell? ⟨hb, 12, none⟩ = some (.int .u64 0) := D1.cell 12
  try go_wp2_with fail
  refine bodyPost_ret (v := .tuple #[.agg #[.int .i64 0, .int .i64 0, .int .i64 0, .int .i64 0, .int .i64 0, .int .i64 0, .int .u32 0, .int .u32 0, .int .u32 0, .int .u64 0, .int .u64 0, .int .u64 0, .int .u64 0], .slice none 0 0, .int .i64 3]) (by simp [results, Try.results29, go_sem, *]) rfl ⟨rfl, RD⟩
end Go.Proofs.Ytnpfndlmbaafaaa
