/- The walk of InterleaveForgets. -/
import Derived.Test.YtnpfndlmbaafaaaIlK
import Derived.IntWalk
namespace Go.Proofs.Ytnpfndlmbaafaaa
open Go.RowKit

def memF : Nat → List (Nat × Nat)
  | 0 => [(100, 101)]
  | k + 1 => ((200 + k, 300 + k) :: memF k).take 8
theorem memF_new : ∀ k < 12, findE (memF k) (200 + k) = -1 := by decide +kernel
theorem memF_hit : ∀ k < 8, findE (memF k) 100 = k ∧ trmAt (memF k) k = 101 := by decide +kernel
theorem memF_miss : ∀ k < 12, 8 ≤ k → findE (memF k) 100 = -1 := by decide +kernel
theorem memF_900 : ∀ k < 12, findE (memF k) 900 = -1 := by decide +kernel
theorem stores_size : ∀ (w : World) (g : Nat) (vs : List Value) (k : Nat), (stores w g vs k).heap.size = w.heap.size
  | _, _, [], _ => rfl
  | w, g, v :: vs, k => (stores_size _ g vs (k + 1)).trans (by simp)
theorem Rd.blt {w : World} {size n c : Nat} {A : Option Addr} {xs : List Value} (h : Rd w size A n c xs) (hx : 0 < xs.length) : ∀ x, A = some x → x.block < w.heap.size := by
  intro x hA
  obtain ⟨b, off, e, hc⟩ := h.2.2.2 0 _ (List.getElem?_eq_getElem hx)
  rw [hA] at e
  injection e with e
  subst e
  exact World.block_lt_of_cell? w _ hc
set_option maxRecDepth 100000 in
set_option maxHeartbeats 4000000 in
theorem interleaveForgets_walk (bt x : Nat) (hbt : bt < 256) (w : World) :
    Calls Try.prog 11 #[.int .u8 bt, .int .u64 x] w fun e w' => e = .returned (.bool true) ∧ Below w.heap.size w w' := by
  obtain ⟨n, hn⟩ : ∃ n, bt % 12 = n := ⟨_, rfl⟩
  have hn12 : n < 12 := by omega
  have e1 : (bt : Int).tmod 12 = (n : Int) := by rw [Int.tmod_eq_emod_of_nonneg (by omega)]; omega
  clear hn
  go_enter Try.func11, Try.ntmps11
  go_wp2_with fail
  refine (ilAsk_fresh false 0 0 0 0 0 0 5 0 (by decide) (by decide) (by decide) _).mono ?_
  rintro e y1 ⟨rfl, hb⟩
  have hbx : Below w.heap.size w y1 := below_via (by go_grown) hb (by first | (simp; done) | (simp; omega))
  have R2 := Lib.hid hbx
  have hz_y1 := R2.out.size
  clear hb hbx 
  clear e1
  go_upto_region 3 with fail
  obtain ⟨x3, i_, h_, ex3, ei_, eh_⟩ : ∃ x3 i_ h_, x3 = (y1.alloc (.cells #[.bool true, .bool false, .int .u64 5, .int .i64 0, .int .i64 0, .int .i64 0, .int .u64 0, .int .u64 0] 61)).alloc (.cells #[.int .i64 0, .int .i64 4, .int .i64 3, .int .i64 0, .int .i64 6, .int .i64 0, .int .u32 0, .int .u32 0, .int .u32 0, .int .u64 0, .int .u64 0, .int .u64 0, .int .u64 5] 25) ∧ i_ = y1.heap.size ∧ h_ = y1.heap.size + 1 := ⟨_, _, _, rfl, rfl, rfl⟩
  rw [← ex3, ← eh_, ← ei_]
  have hbx : Below y1.heap.size y1 x3 := by rw [ex3]; exact below_alloc2 _ _ _ 
  have o_I_H : i_ < h_ := by omega
  have g_I : w.heap.size ≤ i_ := by rw [ei_]; exact hz_y1
  have BI := Lib.hid (show Blk x3 i_ 61 #[.bool true, .bool false, .int .u64 5, .int .i64 0, .int .i64 0, .int .i64 0, .int .u64 0, .int .u64 0] by rw [ex3, ei_]; exact blk_new2_0 _ _ _ _ _ )
  have BH := Lib.hid (show Blk x3 h_ 25 #[.int .i64 0, .int .i64 4, .int .i64 3, .int .i64 0, .int .i64 6, .int .i64 0, .int .u32 0, .int .u32 0, .int .u32 0, .int .u64 0, .int .u64 0, .int .u64 0, .int .u64 5] by rw [ex3, eh_]; exact blk_new2_1 _ _ _ _ _ )
  have R4 := Lib.hid (R2.out.trans (hbx.mono hz_y1))
  have hz_x3 := R4.out.size
  clear hbx ex3 ei_ eh_ R2 hz_y1
  have kH_0 : x3.cell? ⟨h_, 0, none⟩ = some (.int .i64 0) := BH.out.cell 0
  have kH_1 : x3.cell? ⟨h_, 1, none⟩ = some (.int .i64 4) := BH.out.cell 1
  have kH_2 : x3.cell? ⟨h_, 2, none⟩ = some (.int .i64 3) := BH.out.cell 2
  have kH_3 : x3.cell? ⟨h_, 3, none⟩ = some (.int .i64 0) := BH.out.cell 3
  have kH_4 : x3.cell? ⟨h_, 4, none⟩ = some (.int .i64 6) := BH.out.cell 4
  have kH_5 : x3.cell? ⟨h_, 5, none⟩ = some (.int .i64 0) := BH.out.cell 5
  have kH_6 : x3.cell? ⟨h_, 6, none⟩ = some (.int .u32 0) := BH.out.cell 6
  have kH_7 : x3.cell? ⟨h_, 7, none⟩ = some (.int .u32 0) := BH.out.cell 7
  have kH_8 : x3.cell? ⟨h_, 8, none⟩ = some (.int .u32 0) := BH.out.cell 8
  have kH_9 : x3.cell? ⟨h_, 9, none⟩ = some (.int .u64 0) := BH.out.cell 9
  have kH_10 : x3.cell? ⟨h_, 10, none⟩ = some (.int .u64 0) := BH.out.cell 10
  have kH_11 : x3.cell? ⟨h_, 11, none⟩ = some (.int .u64 0) := BH.out.cell 11
  have kH_12 : x3.cell? ⟨h_, 12, none⟩ = some (.int .u64 5) := BH.out.cell 12
  have li := BI.out.lt
  go_wp2_with fail
  refine (serve_zero_lt none 0 0 [] 0 4 3 0 6 0 0 0 0 0 0 0 5 2 100 101 _ (Echs.nil _) (by decide) rfl (by decide) (by decide) (by decide) (by decide) rfl).mono ?_
  rintro e y5 ⟨A1, c1, rfl, hm, hf, hb⟩
  clear kH_0 kH_1 kH_2 kH_3 kH_4 kH_5 kH_6 kH_7 kH_8 kH_9 kH_10 kH_11 kH_12
  have hbx : Below x3.heap.size x3 y5 := below_via (by go_grown) hb (by first | (simp; done) | (simp; omega))
  have BI := Lib.hid (BI.out.stays hbx)
  have BH := Lib.hid (BH.out.stays hbx)
  have M := Lib.hid (show Echs _ A1 1 c1 (memF 0) from hm)
  have R6 := Lib.hid (R4.out.trans (hbx.mono hz_x3))
  have hz_y5 := R6.out.size
  clear hb hbx  R4 hz_x3
  have FI : Hid (∀ x, A1 = some x → x.block ≠ i_) := fun x hx e => by have := hf x hx; omega
  clear hf hm li
  have hm1 := M.out.le
  have hm2 := M.out.cap
  go_upto_region 4 with fail
  obtain ⟨x7, a_, ex7, ea_⟩ : ∃ x7 a_, x7 = y5.alloc (.cells #[.int .i64 0, .int .i64 4, .int .i64 4, .int .i64 2, .int .i64 6, .int .i64 (-20), .int .u32 0, .int .u32 0, .int .u32 0, .int .u64 0, .int .u64 5, .int .u64 100, .int .u64 101] 25) ∧ a_ = y5.heap.size := ⟨_, _, rfl, rfl⟩
  rw [← ex7, ← ea_]
  have hbx : Below y5.heap.size y5 x7 := by rw [ex7]; exact below_alloc1 _ _ 
  have o_I_A : i_ < a_ := by rw [ea_]; exact BI.out.lt
  have o_H_A : h_ < a_ := by rw [ea_]; exact BH.out.lt
  have g_A : w.heap.size ≤ a_ := by rw [ea_]; exact hz_y5
  have BI := Lib.hid (BI.out.stays hbx)
  have BH := Lib.hid (BH.out.stays hbx)
  have M := Lib.hid (M.out.stays hbx)
  have BA := Lib.hid (show Blk x7 a_ 25 #[.int .i64 0, .int .i64 4, .int .i64 4, .int .i64 2, .int .i64 6, .int .i64 (-20), .int .u32 0, .int .u32 0, .int .u32 0, .int .u64 0, .int .u64 5, .int .u64 100, .int .u64 101] by rw [ex7, ea_]; exact blk_new1_0 _ _ _ )
  have R8 := Lib.hid (R6.out.trans (hbx.mono hz_y5))
  have hz_x7 := R8.out.size
  clear hbx ex7 ea_ R6 hz_y5
  have kI_0 : x7.cell? ⟨i_, 0, none⟩ = some (.bool true) := BI.out.cell 0
  have kI_1 : x7.cell? ⟨i_, 1, none⟩ = some (.bool false) := BI.out.cell 1
  have kI_2 : x7.cell? ⟨i_, 2, none⟩ = some (.int .u64 5) := BI.out.cell 2
  have kI_3 : x7.cell? ⟨i_, 3, none⟩ = some (.int .i64 0) := BI.out.cell 3
  have kI_4 : x7.cell? ⟨i_, 4, none⟩ = some (.int .i64 0) := BI.out.cell 4
  have kI_5 : x7.cell? ⟨i_, 5, none⟩ = some (.int .i64 0) := BI.out.cell 5
  have kI_6 : x7.cell? ⟨i_, 6, none⟩ = some (.int .u64 0) := BI.out.cell 6
  have kI_7 : x7.cell? ⟨i_, 7, none⟩ = some (.int .u64 0) := BI.out.cell 7
  have kA_0 : x7.cell? ⟨a_, 0, none⟩ = some (.int .i64 0) := BA.out.cell 0
  have kA_1 : x7.cell? ⟨a_, 1, none⟩ = some (.int .i64 4) := BA.out.cell 1
  have kA_2 : x7.cell? ⟨a_, 2, none⟩ = some (.int .i64 4) := BA.out.cell 2
  have kA_3 : x7.cell? ⟨a_, 3, none⟩ = some (.int .i64 2) := BA.out.cell 3
  have kA_4 : x7.cell? ⟨a_, 4, none⟩ = some (.int .i64 6) := BA.out.cell 4
  have kA_5 : x7.cell? ⟨a_, 5, none⟩ = some (.int .i64 (-20)) := BA.out.cell 5
  have kA_6 : x7.cell? ⟨a_, 6, none⟩ = some (.int .u32 0) := BA.out.cell 6
  have kA_7 : x7.cell? ⟨a_, 7, none⟩ = some (.int .u32 0) := BA.out.cell 7
  have kA_8 : x7.cell? ⟨a_, 8, none⟩ = some (.int .u32 0) := BA.out.cell 8
  have kA_9 : x7.cell? ⟨a_, 9, none⟩ = some (.int .u64 0) := BA.out.cell 9
  have kA_10 : x7.cell? ⟨a_, 10, none⟩ = some (.int .u64 5) := BA.out.cell 10
  have kA_11 : x7.cell? ⟨a_, 11, none⟩ = some (.int .u64 100) := BA.out.cell 11
  have kA_12 : x7.cell? ⟨a_, 12, none⟩ = some (.int .u64 101) := BA.out.cell 12
  go_wp2_with fail
  refine (ilTake_basic false 5 0 0 0 0 0 0 4 4 2 6 (-20) 0 0 0 0 5 100 101 9 (by decide) (by decide) (by decide) rfl rfl _).mono ?_
  rintro e y9 ⟨rfl, hb⟩
  clear kI_0 kI_1 kI_2 kI_3 kI_4 kI_5 kI_6 kI_7 kA_0 kA_1 kA_2 kA_3 kA_4 kA_5 kA_6 kA_7 kA_8 kA_9 kA_10 kA_11 kA_12
  have hbx : Below x7.heap.size x7 y9 := below_via (by go_grown) hb (by first | (simp; done) | (simp; omega))
  have BI := Lib.hid (BI.out.stays hbx)
  have BH := Lib.hid (BH.out.stays hbx)
  have BA := Lib.hid (BA.out.stays hbx)
  have M := Lib.hid (M.out.stays hbx)
  have R10 := Lib.hid (R8.out.trans (hbx.mono hz_x7))
  have hz_y9 := R10.out.size
  clear hb hbx  R8 hz_x7
  have fI_0 := BI.out.frozen 0
  have fI_1 := BI.out.frozen 1
  have fI_2 := BI.out.frozen 2
  have fI_3 := BI.out.frozen 3
  have fI_4 := BI.out.frozen 4
  have fI_5 := BI.out.frozen 5
  have fI_6 := BI.out.frozen 6
  have fI_7 := BI.out.frozen 7
  have kI_0 : y9.cell? ⟨i_, 0, none⟩ = some (.bool true) := BI.out.cell 0
  have kI_1 : y9.cell? ⟨i_, 1, none⟩ = some (.bool false) := BI.out.cell 1
  have kI_2 : y9.cell? ⟨i_, 2, none⟩ = some (.int .u64 5) := BI.out.cell 2
  have kI_3 : y9.cell? ⟨i_, 3, none⟩ = some (.int .i64 0) := BI.out.cell 3
  have kI_4 : y9.cell? ⟨i_, 4, none⟩ = some (.int .i64 0) := BI.out.cell 4
  have kI_5 : y9.cell? ⟨i_, 5, none⟩ = some (.int .i64 0) := BI.out.cell 5
  have kI_6 : y9.cell? ⟨i_, 6, none⟩ = some (.int .u64 0) := BI.out.cell 6
  have kI_7 : y9.cell? ⟨i_, 7, none⟩ = some (.int .u64 0) := BI.out.cell 7
  have hl1 := BI.out.lt
  have hl2 : ¬ i_ = y9.heap.size := by omega
  have hl3 : ¬ y9.heap.size = i_ := by omega
  go_upto_region 5 with fail
  clear fI_0 fI_1 fI_2 fI_3 fI_4 fI_5 fI_6 fI_7 kI_0 kI_1 kI_2 kI_3 kI_4 kI_5 kI_6 kI_7 hl1 hl2 hl3
  obtain ⟨x11, r_, ex, er_⟩ : ∃ x11 r_, ((((((((y9.setCell ⟨i_, 0, none⟩ (.bool false)).setCell ⟨i_, 1, none⟩ (.bool true)).setCell ⟨i_, 2, none⟩ (.int .u64 0)).setCell ⟨i_, 3, none⟩ (.int .i64 0)).setCell ⟨i_, 4, none⟩ (.int .i64 0)).setCell ⟨i_, 5, none⟩ (.int .i64 9)).setCell ⟨i_, 6, none⟩ (.int .u64 100)).setCell ⟨i_, 7, none⟩ (.int .u64 5)).alloc (.cells #[.int .i64 0, .int .i64 9, .int .u64 100, .int .u64 101, .bool false] 71) = x11 ∧ r_ = y9.heap.size := ⟨_, _, rfl, rfl⟩
  rw [ex, ← er_]
  have ex2 : (stores y9 i_ [.bool false, .bool true, .int .u64 0, .int .i64 0, .int .i64 0, .int .i64 9, .int .u64 100, .int .u64 5] 0).alloc (.cells #[.int .i64 0, .int .i64 9, .int .u64 100, .int .u64 101, .bool false] 71) = x11 := ex
  have o_I_R : i_ < r_ := by rw [er_]; exact BI.out.lt
  have oo_I : i_ < r_ := by rw [er_]; exact BI.out.lt
  have BI := Lib.hid (show Blk x11 i_ 61 #[.bool false, .bool true, .int .u64 0, .int .i64 0, .int .i64 0, .int .i64 9, .int .u64 100, .int .u64 5] by rw [← ex2]; exact Blk.stays (Blk.filled BI.out [.bool false, .bool true, .int .u64 0, .int .i64 0, .int .i64 0, .int .i64 9, .int .u64 100, .int .u64 5] rfl) (below_alloc1 _ _))
  clear oo_I
  have oo_H : h_ < r_ := by rw [er_]; exact BH.out.lt
  have BH := Lib.hid (show Blk x11 h_ 25 #[.int .i64 0, .int .i64 4, .int .i64 3, .int .i64 0, .int .i64 6, .int .i64 0, .int .u32 0, .int .u32 0, .int .u32 0, .int .u64 0, .int .u64 0, .int .u64 0, .int .u64 5] by rw [← ex2]; exact Blk.stays (Blk.beside (by omega) [.bool false, .bool true, .int .u64 0, .int .i64 0, .int .i64 0, .int .i64 9, .int .u64 100, .int .u64 5] _ 0 BH.out) (below_alloc1 _ _))
  clear oo_H
  have oo_A : a_ < r_ := by rw [er_]; exact BA.out.lt
  have BA := Lib.hid (show Blk x11 a_ 25 #[.int .i64 0, .int .i64 4, .int .i64 4, .int .i64 2, .int .i64 6, .int .i64 (-20), .int .u32 0, .int .u32 0, .int .u32 0, .int .u64 0, .int .u64 5, .int .u64 100, .int .u64 101] by rw [← ex2]; exact Blk.stays (Blk.beside (by omega) [.bool false, .bool true, .int .u64 0, .int .i64 0, .int .i64 0, .int .i64 9, .int .u64 100, .int .u64 5] _ 0 BA.out) (below_alloc1 _ _))
  clear oo_A
  have BR := Lib.hid (show Blk x11 r_ 71 #[.int .i64 0, .int .i64 9, .int .u64 100, .int .u64 101, .bool false] by rw [← ex2, er_, ← stores_size y9 i_ [.bool false, .bool true, .int .u64 0, .int .i64 0, .int .i64 0, .int .i64 9, .int .u64 100, .int .u64 5] 0]; exact Blk.new _ _ _)
  have R12 := Lib.hid (show Below w.heap.size w x11 by rw [← ex2]; exact (Below.stores (by omega) _ _ _ R10.out).alloc (by rw [stores_size]; exact hz_y9) _)
  have hz_x11 := R12.out.size
  have M := Lib.hid (show Echs x11 A1 1 c1 (memF 0) by
      rw [← ex2]
      exact Echs.stays (Rd.kept M.out (fun x hx => stores_heap _ _ (FI.out x hx) _ _ 0)) (below_alloc1 _ _))
  clear FI
  clear ex ex2 er_ R10 hz_y9
  go_wp2_with fail
  go_loopw [9, 15] (fun m k wr => ∃ (j nn c : Nat) (A : Option Addr), j ≤ n ∧ k = .int .i64 j ∧ m = .slice A nn c ∧ Hid (nn = min (j + 1) 8) ∧ Echs wr A nn c (memF j) ∧ Below x11.heap.size x11 wr) (fun _ k _ => n - (intOf k).toNat)
  case atStart =>
    refine ⟨0, 1, c1, A1, Nat.zero_le _, rfl, rfl, by unfold Hid; omega, ?_, ?_⟩
    exact M.out
    exact Below.refl _ _
  case round =>
    clear M hm1 hm2
    obtain ⟨j, nn, c, A, hj, rfl, rfl, hnn, hm, hbr⟩ := hrel
    have M := Lib.hid hm
    have hm1 := M.out.le
    have hm2 := M.out.cap
    have hsr := hbr.size
    clear hm
    by_cases hjn : j < n
    · obtain ⟨rc, hrc⟩ : ∃ rc : Nat, (200 : Int) + (j : Int) = (rc : Int) := ⟨200 + j, by omega⟩
      obtain ⟨tx, htx⟩ : ∃ tx : Nat, (300 : Int) + (j : Int) = (tx : Int) := ⟨300 + j, by omega⟩
      have HNew : Hid (findE (memF j) rc = -1) := by have := memF_new j (by omega); rw [show 200 + j = rc by omega] at this; exact this
      have HNext : Hid (memF (j + 1) = ((rc, tx) :: memF j).take 8) := by unfold Hid; rw [memF, show 200 + j = rc by omega, show 300 + j = tx by omega]
      have hji : (j : Int) < (n : Int) := by omega
      have wrc : IntKind.u64.wrap (rc : Int) = (rc : Int) := IntWalk.u64_in _ (by omega)
      have wtx : IntKind.u64.wrap (tx : Int) = (tx : Int) := IntWalk.u64_in _ (by omega)
      by_cases hj7 : j < 7
      · obtain rfl : nn = j + 1 := by have := hnn.out; omega
        go_wp2_with fail
        refine (refAsk_any x _).mono ?_
        rintro e w1 ⟨rfl, hb⟩
        have hB1 := hbr.trans (hb.mono hsr)
        have M1 := Lib.hid (M.out.stays hb)
        have hs1 := hB1.size
        clear hb M
        go_wp2_with fail
        refine (serve_zero_lt A _ c (memF j) 0 4 3 0 6 0 0 0 0 0 0 0 x 2 rc tx _ M1.out (by decide) rfl (by decide) (by decide) HNew.out (by omega) rfl).mono ?_
        rintro e w2 ⟨A2, c2, rfl, hm, hf, hb⟩
        have hB2 := hB1.trans (hb.mono hs1)
        have HM2 := Lib.hid hm
        have hm3 := HM2.out.le
        have hm4 := HM2.out.cap
        have hs2 := hB2.size
        clear hm hf hb M1
        go_wp2
        go_roundw
        case rel => exact ⟨j + 1, _, c2, A2, by omega, by go_num, rfl, by unfold Hid; omega, by rw [HNext.out]; exact Echs.stays HM2.out (by go_grown), by go_grown⟩
        case measure => simp [intOf]; omega
      · obtain rfl : nn = 8 := by have := hnn.out; omega
        go_wp2_with fail
        refine (refAsk_any x _).mono ?_
        rintro e w1 ⟨rfl, hb⟩
        have hB1 := hbr.trans (hb.mono hsr)
        have M1 := Lib.hid (M.out.stays hb)
        have hs1 := hB1.size
        clear hb M
        go_wp2_with fail
        refine (serve_zero_full A _ c (memF j) 0 4 3 0 6 0 0 0 0 0 0 0 x 2 rc tx _ M1.out (by decide) rfl (by decide) (by decide) HNew.out rfl rfl).mono ?_
        rintro e w2 ⟨A2, c2, rfl, hm, hf, hb⟩
        have hB2 := hB1.trans (hb.mono hs1)
        have HM2 := Lib.hid hm
        have hm3 := HM2.out.le
        have hm4 := HM2.out.cap
        have hs2 := hB2.size
        clear hm hf hb M1
        go_wp2
        go_roundw
        case rel => exact ⟨j + 1, _, c2, A2, by omega, by go_num, rfl, by unfold Hid; omega, by rw [HNext.out]; exact Echs.stays HM2.out (by go_grown), by go_grown⟩
        case measure => simp [intOf]; omega
    · obtain rfl : j = n := by omega
      have hjn2 : ¬ (j : Int) < (j : Int) := by omega
      by_cases hj7 : j < 7
      · obtain rfl : nn = j + 1 := by have := hnn.out; omega
        have BI := Lib.hid (BI.out.stays hbr)
        have BH := Lib.hid (BH.out.stays hbr)
        have BA := Lib.hid (BA.out.stays hbr)
        have BR := Lib.hid (BR.out.stays hbr)
        have RW := Lib.hid (R12.out.trans (hbr.mono hz_x11))
        have hz_wr := RW.out.size
        clear hbr hsr
        have kI_0 : wr.cell? ⟨i_, 0, none⟩ = some (.bool false) := BI.out.cell 0
        have kI_1 : wr.cell? ⟨i_, 1, none⟩ = some (.bool true) := BI.out.cell 1
        have kI_2 : wr.cell? ⟨i_, 2, none⟩ = some (.int .u64 0) := BI.out.cell 2
        have kI_3 : wr.cell? ⟨i_, 3, none⟩ = some (.int .i64 0) := BI.out.cell 3
        have kI_4 : wr.cell? ⟨i_, 4, none⟩ = some (.int .i64 0) := BI.out.cell 4
        have kI_5 : wr.cell? ⟨i_, 5, none⟩ = some (.int .i64 9) := BI.out.cell 5
        have kI_6 : wr.cell? ⟨i_, 6, none⟩ = some (.int .u64 100) := BI.out.cell 6
        have kI_7 : wr.cell? ⟨i_, 7, none⟩ = some (.int .u64 5) := BI.out.cell 7
        go_wp2_with fail
        refine (ilAsk_known false 0 0 0 9 100 5 6 10 (by decide) (by decide) (by decide) (by decide) _).mono ?_
        rintro e y23 ⟨rfl, hb⟩
        clear kI_0 kI_1 kI_2 kI_3 kI_4 kI_5 kI_6 kI_7
        have hbx : Below wr.heap.size wr y23 := below_via (by go_grown) hb (by first | (simp; done) | (simp; omega))
        have BI := Lib.hid (BI.out.stays hbx)
        have BH := Lib.hid (BH.out.stays hbx)
        have BA := Lib.hid (BA.out.stays hbx)
        have BR := Lib.hid (BR.out.stays hbx)
        have M := Lib.hid (M.out.stays hbx)
        have R24 := Lib.hid (RW.out.trans (hbx.mono hz_wr))
        have hz_y23 := R24.out.size
        clear hb hbx  RW hz_wr
        go_upto_region 15 with fail
        obtain ⟨x25, k_, p_, ex25, ek_, ep_⟩ : ∃ x25 k_ p_, x25 = (y23.alloc (.cells #[.bool true, .bool true, .int .u64 6, .int .i64 10, .int .i64 0, .int .i64 9, .int .u64 100, .int .u64 5] 61)).alloc (.cells #[.int .i64 0, .int .i64 4, .int .i64 3, .int .i64 0, .int .i64 6, .int .i64 0, .int .u32 0, .int .u32 0, .int .u32 0, .int .u64 0, .int .u64 100, .int .u64 5, .int .u64 6] 25) ∧ k_ = y23.heap.size ∧ p_ = y23.heap.size + 1 := ⟨_, _, _, rfl, rfl, rfl⟩
        rw [← ex25, ← ep_, ← ek_]
        have hbx : Below y23.heap.size y23 x25 := by rw [ex25]; exact below_alloc2 _ _ _ 
        have o_I_K : i_ < k_ := by rw [ek_]; exact BI.out.lt
        have o_H_K : h_ < k_ := by rw [ek_]; exact BH.out.lt
        have o_A_K : a_ < k_ := by rw [ek_]; exact BA.out.lt
        have o_R_K : r_ < k_ := by rw [ek_]; exact BR.out.lt
        have o_K_P : k_ < p_ := by omega
        have g_K : w.heap.size ≤ k_ := by rw [ek_]; exact hz_y23
        have BI := Lib.hid (BI.out.stays hbx)
        have BH := Lib.hid (BH.out.stays hbx)
        have BA := Lib.hid (BA.out.stays hbx)
        have BR := Lib.hid (BR.out.stays hbx)
        have M := Lib.hid (M.out.stays hbx)
        have BK := Lib.hid (show Blk x25 k_ 61 #[.bool true, .bool true, .int .u64 6, .int .i64 10, .int .i64 0, .int .i64 9, .int .u64 100, .int .u64 5] by rw [ex25, ek_]; exact blk_new2_0 _ _ _ _ _ )
        have BP := Lib.hid (show Blk x25 p_ 25 #[.int .i64 0, .int .i64 4, .int .i64 3, .int .i64 0, .int .i64 6, .int .i64 0, .int .u32 0, .int .u32 0, .int .u32 0, .int .u64 0, .int .u64 100, .int .u64 5, .int .u64 6] by rw [ex25, ep_]; exact blk_new2_1 _ _ _ _ _ )
        have R26 := Lib.hid (R24.out.trans (hbx.mono hz_y23))
        have hz_x25 := R26.out.size
        clear hbx ex25 ek_ ep_ R24 hz_y23
        have kP_0 : x25.cell? ⟨p_, 0, none⟩ = some (.int .i64 0) := BP.out.cell 0
        have kP_1 : x25.cell? ⟨p_, 1, none⟩ = some (.int .i64 4) := BP.out.cell 1
        have kP_2 : x25.cell? ⟨p_, 2, none⟩ = some (.int .i64 3) := BP.out.cell 2
        have kP_3 : x25.cell? ⟨p_, 3, none⟩ = some (.int .i64 0) := BP.out.cell 3
        have kP_4 : x25.cell? ⟨p_, 4, none⟩ = some (.int .i64 6) := BP.out.cell 4
        have kP_5 : x25.cell? ⟨p_, 5, none⟩ = some (.int .i64 0) := BP.out.cell 5
        have kP_6 : x25.cell? ⟨p_, 6, none⟩ = some (.int .u32 0) := BP.out.cell 6
        have kP_7 : x25.cell? ⟨p_, 7, none⟩ = some (.int .u32 0) := BP.out.cell 7
        have kP_8 : x25.cell? ⟨p_, 8, none⟩ = some (.int .u32 0) := BP.out.cell 8
        have kP_9 : x25.cell? ⟨p_, 9, none⟩ = some (.int .u64 0) := BP.out.cell 9
        have kP_10 : x25.cell? ⟨p_, 10, none⟩ = some (.int .u64 100) := BP.out.cell 10
        have kP_11 : x25.cell? ⟨p_, 11, none⟩ = some (.int .u64 5) := BP.out.cell 11
        have kP_12 : x25.cell? ⟨p_, 12, none⟩ = some (.int .u64 6) := BP.out.cell 12
        have HT := Lib.hid (memF_hit j (by omega)).2
        go_wp2_with fail
        refine (serve_hit_lt A _ c (memF j) 0 4 3 0 6 0 0 0 0 0 100 5 6 2 900 901 _ M.out (by decide) rfl (by decide) (by decide) (memF_900 j (by omega)) (by omega) (by decide) j (by omega) (memF_hit j (by omega)).1).mono ?_
        rintro e y27 ⟨A3, c3, rfl, hm, hf, hb⟩
        clear kP_0 kP_1 kP_2 kP_3 kP_4 kP_5 kP_6 kP_7 kP_8 kP_9 kP_10 kP_11 kP_12
        have hbx : Below x25.heap.size x25 y27 := below_via (by go_grown) hb (by first | (simp; done) | (simp; omega))
        have BI := Lib.hid (BI.out.stays hbx)
        have BH := Lib.hid (BH.out.stays hbx)
        have BA := Lib.hid (BA.out.stays hbx)
        have BR := Lib.hid (BR.out.stays hbx)
        have BK := Lib.hid (BK.out.stays hbx)
        have BP := Lib.hid (BP.out.stays hbx)
        have M := Lib.hid (M.out.stays hbx)
        have R28 := Lib.hid (R26.out.trans (hbx.mono hz_x25))
        have hz_y27 := R28.out.size
        clear hb hbx  R26 hz_x25
        rw [HT.out]
        go_upto_region 16 with fail
        obtain ⟨x29, u_, ex29, eu_⟩ : ∃ x29 u_, x29 = y27.alloc (.cells #[.int .i64 0, .int .i64 4, .int .i64 4, .int .i64 2, .int .i64 6, .int .i64 (-20), .int .u32 0, .int .u32 0, .int .u32 0, .int .u64 0, .int .u64 5, .int .u64 900, .int .u64 101] 25) ∧ u_ = y27.heap.size := ⟨_, _, rfl, rfl⟩
        rw [← ex29, ← eu_]
        have hbx : Below y27.heap.size y27 x29 := by rw [ex29]; exact below_alloc1 _ _ 
        have o_I_U : i_ < u_ := by rw [eu_]; exact BI.out.lt
        have o_H_U : h_ < u_ := by rw [eu_]; exact BH.out.lt
        have o_A_U : a_ < u_ := by rw [eu_]; exact BA.out.lt
        have o_R_U : r_ < u_ := by rw [eu_]; exact BR.out.lt
        have o_K_U : k_ < u_ := by rw [eu_]; exact BK.out.lt
        have o_P_U : p_ < u_ := by rw [eu_]; exact BP.out.lt
        have g_U : w.heap.size ≤ u_ := by rw [eu_]; exact hz_y27
        have BI := Lib.hid (BI.out.stays hbx)
        have BH := Lib.hid (BH.out.stays hbx)
        have BA := Lib.hid (BA.out.stays hbx)
        have BR := Lib.hid (BR.out.stays hbx)
        have BK := Lib.hid (BK.out.stays hbx)
        have BP := Lib.hid (BP.out.stays hbx)
        have M := Lib.hid (M.out.stays hbx)
        have BU := Lib.hid (show Blk x29 u_ 25 #[.int .i64 0, .int .i64 4, .int .i64 4, .int .i64 2, .int .i64 6, .int .i64 (-20), .int .u32 0, .int .u32 0, .int .u32 0, .int .u64 0, .int .u64 5, .int .u64 900, .int .u64 101] by rw [ex29, eu_]; exact blk_new1_0 _ _ _ )
        have R30 := Lib.hid (R28.out.trans (hbx.mono hz_y27))
        have hz_x29 := R30.out.size
        clear hbx ex29 eu_ R28 hz_y27
        clear hm hf
        go_wp2_with fail
        refine (ilKnown _).mono ?_
        rintro e y31 ⟨rfl, hb⟩
        have hbx : Below x29.heap.size x29 y31 := below_via (by go_grown) hb (by first | (simp; done) | (simp; omega))
        have BI := Lib.hid (BI.out.stays hbx)
        have BH := Lib.hid (BH.out.stays hbx)
        have BA := Lib.hid (BA.out.stays hbx)
        have BR := Lib.hid (BR.out.stays hbx)
        have BK := Lib.hid (BK.out.stays hbx)
        have BP := Lib.hid (BP.out.stays hbx)
        have BU := Lib.hid (BU.out.stays hbx)
        have M := Lib.hid (M.out.stays hbx)
        have R32 := Lib.hid (R30.out.trans (hbx.mono hz_x29))
        have hz_y31 := R32.out.size
        clear hb hbx  R30 hz_x29
        have kU_10 : y31.cell? ⟨u_, 10, none⟩ = some (.int .u64 5) := BU.out.cell 10
        have kU_12 : y31.cell? ⟨u_, 12, none⟩ = some (.int .u64 101) := BU.out.cell 12
        go_wp2
        go_ret
        exact ⟨rfl, R32.out⟩
      · by_cases hj8 : j < 8
        · obtain rfl : nn = 8 := by have := hnn.out; omega
          have BI := Lib.hid (BI.out.stays hbr)
          have BH := Lib.hid (BH.out.stays hbr)
          have BA := Lib.hid (BA.out.stays hbr)
          have BR := Lib.hid (BR.out.stays hbr)
          have RW := Lib.hid (R12.out.trans (hbr.mono hz_x11))
          have hz_wr := RW.out.size
          clear hbr hsr
          have kI_0 : wr.cell? ⟨i_, 0, none⟩ = some (.bool false) := BI.out.cell 0
          have kI_1 : wr.cell? ⟨i_, 1, none⟩ = some (.bool true) := BI.out.cell 1
          have kI_2 : wr.cell? ⟨i_, 2, none⟩ = some (.int .u64 0) := BI.out.cell 2
          have kI_3 : wr.cell? ⟨i_, 3, none⟩ = some (.int .i64 0) := BI.out.cell 3
          have kI_4 : wr.cell? ⟨i_, 4, none⟩ = some (.int .i64 0) := BI.out.cell 4
          have kI_5 : wr.cell? ⟨i_, 5, none⟩ = some (.int .i64 9) := BI.out.cell 5
          have kI_6 : wr.cell? ⟨i_, 6, none⟩ = some (.int .u64 100) := BI.out.cell 6
          have kI_7 : wr.cell? ⟨i_, 7, none⟩ = some (.int .u64 5) := BI.out.cell 7
          go_wp2_with fail
          refine (ilAsk_known false 0 0 0 9 100 5 6 10 (by decide) (by decide) (by decide) (by decide) _).mono ?_
          rintro e y23 ⟨rfl, hb⟩
          clear kI_0 kI_1 kI_2 kI_3 kI_4 kI_5 kI_6 kI_7
          have hbx : Below wr.heap.size wr y23 := below_via (by go_grown) hb (by first | (simp; done) | (simp; omega))
          have BI := Lib.hid (BI.out.stays hbx)
          have BH := Lib.hid (BH.out.stays hbx)
          have BA := Lib.hid (BA.out.stays hbx)
          have BR := Lib.hid (BR.out.stays hbx)
          have M := Lib.hid (M.out.stays hbx)
          have R24 := Lib.hid (RW.out.trans (hbx.mono hz_wr))
          have hz_y23 := R24.out.size
          clear hb hbx  RW hz_wr
          go_upto_region 15 with fail
          obtain ⟨x25, k_, p_, ex25, ek_, ep_⟩ : ∃ x25 k_ p_, x25 = (y23.alloc (.cells #[.bool true, .bool true, .int .u64 6, .int .i64 10, .int .i64 0, .int .i64 9, .int .u64 100, .int .u64 5] 61)).alloc (.cells #[.int .i64 0, .int .i64 4, .int .i64 3, .int .i64 0, .int .i64 6, .int .i64 0, .int .u32 0, .int .u32 0, .int .u32 0, .int .u64 0, .int .u64 100, .int .u64 5, .int .u64 6] 25) ∧ k_ = y23.heap.size ∧ p_ = y23.heap.size + 1 := ⟨_, _, _, rfl, rfl, rfl⟩
          rw [← ex25, ← ep_, ← ek_]
          have hbx : Below y23.heap.size y23 x25 := by rw [ex25]; exact below_alloc2 _ _ _ 
          have o_I_K : i_ < k_ := by rw [ek_]; exact BI.out.lt
          have o_H_K : h_ < k_ := by rw [ek_]; exact BH.out.lt
          have o_A_K : a_ < k_ := by rw [ek_]; exact BA.out.lt
          have o_R_K : r_ < k_ := by rw [ek_]; exact BR.out.lt
          have o_K_P : k_ < p_ := by omega
          have g_K : w.heap.size ≤ k_ := by rw [ek_]; exact hz_y23
          have BI := Lib.hid (BI.out.stays hbx)
          have BH := Lib.hid (BH.out.stays hbx)
          have BA := Lib.hid (BA.out.stays hbx)
          have BR := Lib.hid (BR.out.stays hbx)
          have M := Lib.hid (M.out.stays hbx)
          have BK := Lib.hid (show Blk x25 k_ 61 #[.bool true, .bool true, .int .u64 6, .int .i64 10, .int .i64 0, .int .i64 9, .int .u64 100, .int .u64 5] by rw [ex25, ek_]; exact blk_new2_0 _ _ _ _ _ )
          have BP := Lib.hid (show Blk x25 p_ 25 #[.int .i64 0, .int .i64 4, .int .i64 3, .int .i64 0, .int .i64 6, .int .i64 0, .int .u32 0, .int .u32 0, .int .u32 0, .int .u64 0, .int .u64 100, .int .u64 5, .int .u64 6] by rw [ex25, ep_]; exact blk_new2_1 _ _ _ _ _ )
          have R26 := Lib.hid (R24.out.trans (hbx.mono hz_y23))
          have hz_x25 := R26.out.size
          clear hbx ex25 ek_ ep_ R24 hz_y23
          have kP_0 : x25.cell? ⟨p_, 0, none⟩ = some (.int .i64 0) := BP.out.cell 0
          have kP_1 : x25.cell? ⟨p_, 1, none⟩ = some (.int .i64 4) := BP.out.cell 1
          have kP_2 : x25.cell? ⟨p_, 2, none⟩ = some (.int .i64 3) := BP.out.cell 2
          have kP_3 : x25.cell? ⟨p_, 3, none⟩ = some (.int .i64 0) := BP.out.cell 3
          have kP_4 : x25.cell? ⟨p_, 4, none⟩ = some (.int .i64 6) := BP.out.cell 4
          have kP_5 : x25.cell? ⟨p_, 5, none⟩ = some (.int .i64 0) := BP.out.cell 5
          have kP_6 : x25.cell? ⟨p_, 6, none⟩ = some (.int .u32 0) := BP.out.cell 6
          have kP_7 : x25.cell? ⟨p_, 7, none⟩ = some (.int .u32 0) := BP.out.cell 7
          have kP_8 : x25.cell? ⟨p_, 8, none⟩ = some (.int .u32 0) := BP.out.cell 8
          have kP_9 : x25.cell? ⟨p_, 9, none⟩ = some (.int .u64 0) := BP.out.cell 9
          have kP_10 : x25.cell? ⟨p_, 10, none⟩ = some (.int .u64 100) := BP.out.cell 10
          have kP_11 : x25.cell? ⟨p_, 11, none⟩ = some (.int .u64 5) := BP.out.cell 11
          have kP_12 : x25.cell? ⟨p_, 12, none⟩ = some (.int .u64 6) := BP.out.cell 12
          have HT := Lib.hid (memF_hit j (by omega)).2
          go_wp2_with fail
          refine (serve_hit_full A _ c (memF j) 0 4 3 0 6 0 0 0 0 0 100 5 6 2 900 901 _ M.out (by decide) rfl (by decide) (by decide) (memF_900 j (by omega)) rfl (by decide) j (by omega) (memF_hit j (by omega)).1).mono ?_
          rintro e y27 ⟨A3, c3, rfl, hm, hf, hb⟩
          clear kP_0 kP_1 kP_2 kP_3 kP_4 kP_5 kP_6 kP_7 kP_8 kP_9 kP_10 kP_11 kP_12
          have hbx : Below x25.heap.size x25 y27 := below_via (by go_grown) hb (by first | (simp; done) | (simp; omega))
          have BI := Lib.hid (BI.out.stays hbx)
          have BH := Lib.hid (BH.out.stays hbx)
          have BA := Lib.hid (BA.out.stays hbx)
          have BR := Lib.hid (BR.out.stays hbx)
          have BK := Lib.hid (BK.out.stays hbx)
          have BP := Lib.hid (BP.out.stays hbx)
          have M := Lib.hid (M.out.stays hbx)
          have R28 := Lib.hid (R26.out.trans (hbx.mono hz_x25))
          have hz_y27 := R28.out.size
          clear hb hbx  R26 hz_x25
          rw [HT.out]
          go_upto_region 16 with fail
          obtain ⟨x29, u_, ex29, eu_⟩ : ∃ x29 u_, x29 = y27.alloc (.cells #[.int .i64 0, .int .i64 4, .int .i64 4, .int .i64 2, .int .i64 6, .int .i64 (-20), .int .u32 0, .int .u32 0, .int .u32 0, .int .u64 0, .int .u64 5, .int .u64 900, .int .u64 101] 25) ∧ u_ = y27.heap.size := ⟨_, _, rfl, rfl⟩
          rw [← ex29, ← eu_]
          have hbx : Below y27.heap.size y27 x29 := by rw [ex29]; exact below_alloc1 _ _ 
          have o_I_U : i_ < u_ := by rw [eu_]; exact BI.out.lt
          have o_H_U : h_ < u_ := by rw [eu_]; exact BH.out.lt
          have o_A_U : a_ < u_ := by rw [eu_]; exact BA.out.lt
          have o_R_U : r_ < u_ := by rw [eu_]; exact BR.out.lt
          have o_K_U : k_ < u_ := by rw [eu_]; exact BK.out.lt
          have o_P_U : p_ < u_ := by rw [eu_]; exact BP.out.lt
          have g_U : w.heap.size ≤ u_ := by rw [eu_]; exact hz_y27
          have BI := Lib.hid (BI.out.stays hbx)
          have BH := Lib.hid (BH.out.stays hbx)
          have BA := Lib.hid (BA.out.stays hbx)
          have BR := Lib.hid (BR.out.stays hbx)
          have BK := Lib.hid (BK.out.stays hbx)
          have BP := Lib.hid (BP.out.stays hbx)
          have M := Lib.hid (M.out.stays hbx)
          have BU := Lib.hid (show Blk x29 u_ 25 #[.int .i64 0, .int .i64 4, .int .i64 4, .int .i64 2, .int .i64 6, .int .i64 (-20), .int .u32 0, .int .u32 0, .int .u32 0, .int .u64 0, .int .u64 5, .int .u64 900, .int .u64 101] by rw [ex29, eu_]; exact blk_new1_0 _ _ _ )
          have R30 := Lib.hid (R28.out.trans (hbx.mono hz_y27))
          have hz_x29 := R30.out.size
          clear hbx ex29 eu_ R28 hz_y27
          clear hm hf
          go_wp2_with fail
          refine (ilKnown _).mono ?_
          rintro e y31 ⟨rfl, hb⟩
          have hbx : Below x29.heap.size x29 y31 := below_via (by go_grown) hb (by first | (simp; done) | (simp; omega))
          have BI := Lib.hid (BI.out.stays hbx)
          have BH := Lib.hid (BH.out.stays hbx)
          have BA := Lib.hid (BA.out.stays hbx)
          have BR := Lib.hid (BR.out.stays hbx)
          have BK := Lib.hid (BK.out.stays hbx)
          have BP := Lib.hid (BP.out.stays hbx)
          have BU := Lib.hid (BU.out.stays hbx)
          have M := Lib.hid (M.out.stays hbx)
          have R32 := Lib.hid (R30.out.trans (hbx.mono hz_x29))
          have hz_y31 := R32.out.size
          clear hb hbx  R30 hz_x29
          have kU_10 : y31.cell? ⟨u_, 10, none⟩ = some (.int .u64 5) := BU.out.cell 10
          have kU_12 : y31.cell? ⟨u_, 12, none⟩ = some (.int .u64 101) := BU.out.cell 12
          go_wp2
          go_ret
          exact ⟨rfl, R32.out⟩
        · obtain rfl : nn = 8 := by have := hnn.out; omega
          have BI := Lib.hid (BI.out.stays hbr)
          have BH := Lib.hid (BH.out.stays hbr)
          have BA := Lib.hid (BA.out.stays hbr)
          have BR := Lib.hid (BR.out.stays hbr)
          have RW := Lib.hid (R12.out.trans (hbr.mono hz_x11))
          have hz_wr := RW.out.size
          clear hbr hsr
          have kI_0 : wr.cell? ⟨i_, 0, none⟩ = some (.bool false) := BI.out.cell 0
          have kI_1 : wr.cell? ⟨i_, 1, none⟩ = some (.bool true) := BI.out.cell 1
          have kI_2 : wr.cell? ⟨i_, 2, none⟩ = some (.int .u64 0) := BI.out.cell 2
          have kI_3 : wr.cell? ⟨i_, 3, none⟩ = some (.int .i64 0) := BI.out.cell 3
          have kI_4 : wr.cell? ⟨i_, 4, none⟩ = some (.int .i64 0) := BI.out.cell 4
          have kI_5 : wr.cell? ⟨i_, 5, none⟩ = some (.int .i64 9) := BI.out.cell 5
          have kI_6 : wr.cell? ⟨i_, 6, none⟩ = some (.int .u64 100) := BI.out.cell 6
          have kI_7 : wr.cell? ⟨i_, 7, none⟩ = some (.int .u64 5) := BI.out.cell 7
          go_wp2_with fail
          refine (ilAsk_known false 0 0 0 9 100 5 6 10 (by decide) (by decide) (by decide) (by decide) _).mono ?_
          rintro e y23 ⟨rfl, hb⟩
          clear kI_0 kI_1 kI_2 kI_3 kI_4 kI_5 kI_6 kI_7
          have hbx : Below wr.heap.size wr y23 := below_via (by go_grown) hb (by first | (simp; done) | (simp; omega))
          have BI := Lib.hid (BI.out.stays hbx)
          have BH := Lib.hid (BH.out.stays hbx)
          have BA := Lib.hid (BA.out.stays hbx)
          have BR := Lib.hid (BR.out.stays hbx)
          have M := Lib.hid (M.out.stays hbx)
          have R24 := Lib.hid (RW.out.trans (hbx.mono hz_wr))
          have hz_y23 := R24.out.size
          clear hb hbx  RW hz_wr
          go_upto_region 15 with fail
          obtain ⟨x25, k_, p_, ex25, ek_, ep_⟩ : ∃ x25 k_ p_, x25 = (y23.alloc (.cells #[.bool true, .bool true, .int .u64 6, .int .i64 10, .int .i64 0, .int .i64 9, .int .u64 100, .int .u64 5] 61)).alloc (.cells #[.int .i64 0, .int .i64 4, .int .i64 3, .int .i64 0, .int .i64 6, .int .i64 0, .int .u32 0, .int .u32 0, .int .u32 0, .int .u64 0, .int .u64 100, .int .u64 5, .int .u64 6] 25) ∧ k_ = y23.heap.size ∧ p_ = y23.heap.size + 1 := ⟨_, _, _, rfl, rfl, rfl⟩
          rw [← ex25, ← ep_, ← ek_]
          have hbx : Below y23.heap.size y23 x25 := by rw [ex25]; exact below_alloc2 _ _ _ 
          have o_I_K : i_ < k_ := by rw [ek_]; exact BI.out.lt
          have o_H_K : h_ < k_ := by rw [ek_]; exact BH.out.lt
          have o_A_K : a_ < k_ := by rw [ek_]; exact BA.out.lt
          have o_R_K : r_ < k_ := by rw [ek_]; exact BR.out.lt
          have o_K_P : k_ < p_ := by omega
          have g_K : w.heap.size ≤ k_ := by rw [ek_]; exact hz_y23
          have BI := Lib.hid (BI.out.stays hbx)
          have BH := Lib.hid (BH.out.stays hbx)
          have BA := Lib.hid (BA.out.stays hbx)
          have BR := Lib.hid (BR.out.stays hbx)
          have M := Lib.hid (M.out.stays hbx)
          have BK := Lib.hid (show Blk x25 k_ 61 #[.bool true, .bool true, .int .u64 6, .int .i64 10, .int .i64 0, .int .i64 9, .int .u64 100, .int .u64 5] by rw [ex25, ek_]; exact blk_new2_0 _ _ _ _ _ )
          have BP := Lib.hid (show Blk x25 p_ 25 #[.int .i64 0, .int .i64 4, .int .i64 3, .int .i64 0, .int .i64 6, .int .i64 0, .int .u32 0, .int .u32 0, .int .u32 0, .int .u64 0, .int .u64 100, .int .u64 5, .int .u64 6] by rw [ex25, ep_]; exact blk_new2_1 _ _ _ _ _ )
          have R26 := Lib.hid (R24.out.trans (hbx.mono hz_y23))
          have hz_x25 := R26.out.size
          clear hbx ex25 ek_ ep_ R24 hz_y23
          have kP_0 : x25.cell? ⟨p_, 0, none⟩ = some (.int .i64 0) := BP.out.cell 0
          have kP_1 : x25.cell? ⟨p_, 1, none⟩ = some (.int .i64 4) := BP.out.cell 1
          have kP_2 : x25.cell? ⟨p_, 2, none⟩ = some (.int .i64 3) := BP.out.cell 2
          have kP_3 : x25.cell? ⟨p_, 3, none⟩ = some (.int .i64 0) := BP.out.cell 3
          have kP_4 : x25.cell? ⟨p_, 4, none⟩ = some (.int .i64 6) := BP.out.cell 4
          have kP_5 : x25.cell? ⟨p_, 5, none⟩ = some (.int .i64 0) := BP.out.cell 5
          have kP_6 : x25.cell? ⟨p_, 6, none⟩ = some (.int .u32 0) := BP.out.cell 6
          have kP_7 : x25.cell? ⟨p_, 7, none⟩ = some (.int .u32 0) := BP.out.cell 7
          have kP_8 : x25.cell? ⟨p_, 8, none⟩ = some (.int .u32 0) := BP.out.cell 8
          have kP_9 : x25.cell? ⟨p_, 9, none⟩ = some (.int .u64 0) := BP.out.cell 9
          have kP_10 : x25.cell? ⟨p_, 10, none⟩ = some (.int .u64 100) := BP.out.cell 10
          have kP_11 : x25.cell? ⟨p_, 11, none⟩ = some (.int .u64 5) := BP.out.cell 11
          have kP_12 : x25.cell? ⟨p_, 12, none⟩ = some (.int .u64 6) := BP.out.cell 12
          go_wp2_with fail
          refine (serve_miss_full A _ c (memF j) 0 4 3 0 6 0 0 0 0 0 100 5 6 2 900 901 _ M.out (by decide) rfl (by decide) (by decide) (memF_900 j (by omega)) rfl (by decide) (memF_miss j (by omega) (by omega))).mono ?_
          rintro e y27 ⟨A3, c3, rfl, hm, hf, hb⟩
          clear kP_0 kP_1 kP_2 kP_3 kP_4 kP_5 kP_6 kP_7 kP_8 kP_9 kP_10 kP_11 kP_12
          have hbx : Below x25.heap.size x25 y27 := below_via (by go_grown) hb (by first | (simp; done) | (simp; omega))
          have BI := Lib.hid (BI.out.stays hbx)
          have BH := Lib.hid (BH.out.stays hbx)
          have BA := Lib.hid (BA.out.stays hbx)
          have BR := Lib.hid (BR.out.stays hbx)
          have BK := Lib.hid (BK.out.stays hbx)
          have BP := Lib.hid (BP.out.stays hbx)
          have M := Lib.hid (M.out.stays hbx)
          have R28 := Lib.hid (R26.out.trans (hbx.mono hz_x25))
          have hz_y27 := R28.out.size
          clear hb hbx  R26 hz_x25
          go_upto_region 16 with fail
          obtain ⟨x29, u_, ex29, eu_⟩ : ∃ x29 u_, x29 = y27.alloc (.cells #[.int .i64 0, .int .i64 4, .int .i64 4, .int .i64 2, .int .i64 6, .int .i64 (-20), .int .u32 0, .int .u32 0, .int .u32 0, .int .u64 0, .int .u64 6, .int .u64 900, .int .u64 901] 25) ∧ u_ = y27.heap.size := ⟨_, _, rfl, rfl⟩
          rw [← ex29, ← eu_]
          have hbx : Below y27.heap.size y27 x29 := by rw [ex29]; exact below_alloc1 _ _ 
          have o_I_U : i_ < u_ := by rw [eu_]; exact BI.out.lt
          have o_H_U : h_ < u_ := by rw [eu_]; exact BH.out.lt
          have o_A_U : a_ < u_ := by rw [eu_]; exact BA.out.lt
          have o_R_U : r_ < u_ := by rw [eu_]; exact BR.out.lt
          have o_K_U : k_ < u_ := by rw [eu_]; exact BK.out.lt
          have o_P_U : p_ < u_ := by rw [eu_]; exact BP.out.lt
          have g_U : w.heap.size ≤ u_ := by rw [eu_]; exact hz_y27
          have BI := Lib.hid (BI.out.stays hbx)
          have BH := Lib.hid (BH.out.stays hbx)
          have BA := Lib.hid (BA.out.stays hbx)
          have BR := Lib.hid (BR.out.stays hbx)
          have BK := Lib.hid (BK.out.stays hbx)
          have BP := Lib.hid (BP.out.stays hbx)
          have M := Lib.hid (M.out.stays hbx)
          have BU := Lib.hid (show Blk x29 u_ 25 #[.int .i64 0, .int .i64 4, .int .i64 4, .int .i64 2, .int .i64 6, .int .i64 (-20), .int .u32 0, .int .u32 0, .int .u32 0, .int .u64 0, .int .u64 6, .int .u64 900, .int .u64 901] by rw [ex29, eu_]; exact blk_new1_0 _ _ _ )
          have R30 := Lib.hid (R28.out.trans (hbx.mono hz_y27))
          have hz_x29 := R30.out.size
          clear hbx ex29 eu_ R28 hz_y27
          clear hm hf
          go_wp2_with fail
          refine (ilKnown _).mono ?_
          rintro e y31 ⟨rfl, hb⟩
          have hbx : Below x29.heap.size x29 y31 := below_via (by go_grown) hb (by first | (simp; done) | (simp; omega))
          have BI := Lib.hid (BI.out.stays hbx)
          have BH := Lib.hid (BH.out.stays hbx)
          have BA := Lib.hid (BA.out.stays hbx)
          have BR := Lib.hid (BR.out.stays hbx)
          have BK := Lib.hid (BK.out.stays hbx)
          have BP := Lib.hid (BP.out.stays hbx)
          have BU := Lib.hid (BU.out.stays hbx)
          have M := Lib.hid (M.out.stays hbx)
          have R32 := Lib.hid (R30.out.trans (hbx.mono hz_x29))
          have hz_y31 := R32.out.size
          clear hb hbx  R30 hz_x29
          have kU_10 : y31.cell? ⟨u_, 10, none⟩ = some (.int .u64 6) := BU.out.cell 10
          have kU_12 : y31.cell? ⟨u_, 12, none⟩ = some (.int .u64 901) := BU.out.cell 12
          go_wp2
          go_ret
          exact ⟨rfl, R32.out⟩
theorem interleaveForgets_walk' (a0 a1 : Int) (w0 : (Lit.int .u8 a0).wf = true) (w1 : (Lit.int .u64 a1).wf = true) (w : World) :
    Calls Try.prog 11 #[.int .u8 a0, .int .u64 a1] w fun e w' => e = .returned (.bool true) ∧ Below w.heap.size w w' := by
  have b0 := bounds_u8 w0
  obtain ⟨x0, rfl⟩ := Int.eq_ofNat_of_zero_le b0.1
  obtain ⟨x1, rfl⟩ := Int.eq_ofNat_of_zero_le (bounds_u64 w1).1
  exact interleaveForgets_walk x0 x1 (by omega) w
end Go.Proofs.Ytnpfndlmbaafaaa
