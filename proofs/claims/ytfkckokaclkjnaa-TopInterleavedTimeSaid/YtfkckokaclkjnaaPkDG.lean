/- packet.Reply and its reference. -/
import Derived.Test.YtfkckokaclkjnaaPkCG
import Derived.Test.YtfkckokaclkjnaaHdRes
namespace Go.Proofs.Ytfkckokaclkjnaa
open Go.RowKit

/-- The error of Reply. -/
def replyE (h0 h1 h2 h3 h4 h5 s : Int) : Int := if HdOk h0 h1 h2 h3 h4 h5 then (if h2 = 3 then (if 0 ≤ s ∧ s ≤ 255 then 0 else 4) else 3) else 4
def zeroHd : Value := .agg #[.int .i64 0, .int .i64 0, .int .i64 0, .int .i64 0, .int .i64 0, .int .i64 0, .int .u32 0, .int .u32 0, .int .u32 0, .int .u64 0, .int .u64 0, .int .u64 0, .int .u64 0]

set_option maxRecDepth 100000 in
set_option maxHeartbeats 4000000 in
theorem reply_ok (h0 h1 h2 h3 h4 h5 : Int) (h6 h7 h8 h9 h10 h11 h12 : Nat) (s : Int) (r x : Nat) (w : World) (h : HdOk h0 h1 h2 h3 h4 h5) (hm : h2 = 3) (s0 : 0 ≤ s) (s1 : s ≤ 255) :
    Calls Try.prog 18 #[.agg #[.int .i64 h0, .int .i64 h1, .int .i64 h2, .int .i64 h3, .int .i64 h4, .int .i64 h5, .int .u32 h6, .int .u32 h7, .int .u32 h8, .int .u64 h9, .int .u64 h10, .int .u64 h11, .int .u64 h12], .int .i64 s, .int .u64 r, .int .u64 x] w fun e w' => e = .returned (.tuple #[.agg #[.int .i64 0, .int .i64 h1, .int .i64 4, .int .i64 s, .int .i64 h4, .int .i64 (-20), .int .u32 0, .int .u32 0, .int .u32 0, .int .u64 0, .int .u64 h12, .int .u64 r, .int .u64 x], .int .i64 0]) ∧ Below w.heap.size w w' := by
  subst hm
  have H := Lib.hid h
  have H2 : HdOk 0 h1 4 s h4 (-20) := by unfold HdOk at h ⊢; omega
  clear h
  have G2 := Lib.hid H2
  clear H2
  go_enter Try.func18, Try.ntmps18
  go_wp2_with fail
  refine (valid_ok _ _ _ _ _ _ _ _ _ _ _ _ _ _ H.out).mono ?_
  rintro e w1 ⟨rfl, hb1⟩
  obtain ⟨hc1, hf1, hs1⟩ := below_reads hb1
  have hz : w.heap.size + 1 < w1.heap.size := by simp at hs1; omega
  have hz0 : w.heap.size < w1.heap.size := by omega
  have hz5 : ¬ w.heap.size + 1 = w1.heap.size := by omega
  have hz6 : ¬ w1.heap.size = w.heap.size + 1 := by omega
  have R0 : Below w.heap.size w w1 := below_via (by go_grown) hb1 (by simp; omega)
  have hB0 := Lib.hid (show Blk w1 (w.heap.size + 1) 35 #[.int .i64 0, .int .i64 0, .int .i64 0, .int .i64 0, .int .i64 0, .int .i64 0, .int .u32 0, .int .u32 0, .int .u32 0, .int .u64 0, .int .u64 0, .int .u64 0, .int .u64 0] by
    have := (Blk.new (w.alloc _) 35 #[.int .i64 0, .int .i64 0, .int .i64 0, .int .i64 0, .int .i64 0, .int .i64 0, .int .u32 0, .int .u32 0, .int .u32 0, .int .u64 0, .int .u64 0, .int .u64 0, .int .u64 0]).stays hb1
    simpa using this)
  clear hb1
  go_simp
  repeat (first | go_values | go_skip | go_guarded | go_step)
  refine (valid_ok 0 h1 4 s h4 (-20) 0 0 0 0 h12 r x _ G2.out).mono ?_
  rintro e w2 ⟨rfl, hb2⟩
  obtain ⟨hc2, hf2, hs2⟩ := below_reads hb2
  have hz2 : w1.heap.size < w2.heap.size := by simp at hs2; omega
  have hz4 : w.heap.size < w2.heap.size := by omega
  have hz3 : w.heap.size + 1 < w2.heap.size := by omega
  have R1 : Below w.heap.size w w2 := R0.trans (below_via (by go_grown) (hb2.mono (by simp)) (by simp; omega))
  have hB1 := Lib.hid (show Blk w2 (w.heap.size + 1) 35 #[.int .i64 0, .int .i64 0, .int .i64 0, .int .i64 0, .int .i64 0, .int .i64 0, .int .u32 0, .int .u32 0, .int .u32 0, .int .u64 0, .int .u64 0, .int .u64 0, .int .u64 0] from hB0.out.stays (below_via (by go_grown) hb2 (by simp)))
  clear hb2
  go_simp
  repeat (first | go_values | go_skip | go_guarded | go_step)
  refine bodyPost_ret (results_hdS2 (r := 8) (t := 9) (u := 0) rfl _ rfl hB1.out) rfl ⟨rfl, ?_⟩
  go_grown

set_option maxRecDepth 100000 in
set_option maxHeartbeats 4000000 in
theorem reply_bad (h0 h1 h2 h3 h4 h5 : Int) (h6 h7 h8 h9 h10 h11 h12 : Nat) (s : Int) (r x : Nat) (w : World) (h : ¬ HdOk h0 h1 h2 h3 h4 h5) :
    Calls Try.prog 18 #[.agg #[.int .i64 h0, .int .i64 h1, .int .i64 h2, .int .i64 h3, .int .i64 h4, .int .i64 h5, .int .u32 h6, .int .u32 h7, .int .u32 h8, .int .u64 h9, .int .u64 h10, .int .u64 h11, .int .u64 h12], .int .i64 s, .int .u64 r, .int .u64 x] w fun e w' => e = .returned (.tuple #[.agg #[.int .i64 0, .int .i64 0, .int .i64 0, .int .i64 0, .int .i64 0, .int .i64 0, .int .u32 0, .int .u32 0, .int .u32 0, .int .u64 0, .int .u64 0, .int .u64 0, .int .u64 0], .int .i64 4]) ∧ Below w.heap.size w w' := by
  have H := Lib.hid h
  clear h
  go_enter Try.func18, Try.ntmps18
  go_wp2_with fail
  refine (valid_bad _ _ _ _ _ _ _ _ _ _ _ _ _ _ H.out).mono ?_
  rintro e w1 ⟨rfl, hb1⟩
  obtain ⟨hc1, hf1, hs1⟩ := below_reads hb1
  have hz : w.heap.size + 1 < w1.heap.size := by simp at hs1; omega
  have hz0 : w.heap.size < w1.heap.size := by omega
  have hz5 : ¬ w.heap.size + 1 = w1.heap.size := by omega
  have hz6 : ¬ w1.heap.size = w.heap.size + 1 := by omega
  have R0 : Below w.heap.size w w1 := below_via (by go_grown) hb1 (by simp; omega)
  have hB0 := Lib.hid (show Blk w1 (w.heap.size + 1) 35 #[.int .i64 0, .int .i64 0, .int .i64 0, .int .i64 0, .int .i64 0, .int .i64 0, .int .u32 0, .int .u32 0, .int .u32 0, .int .u64 0, .int .u64 0, .int .u64 0, .int .u64 0] by
    have := (Blk.new (w.alloc _) 35 #[.int .i64 0, .int .i64 0, .int .i64 0, .int .i64 0, .int .i64 0, .int .i64 0, .int .u32 0, .int .u32 0, .int .u32 0, .int .u64 0, .int .u64 0, .int .u64 0, .int .u64 0]).stays hb1
    simpa using this)
  clear hb1
  go_simp
  repeat (first | go_values | go_skip | go_guarded | go_step)
  refine bodyPost_ret (results_hdS2 (r := 8) (t := 9) (u := 0) rfl _ rfl hB0.out) rfl ⟨rfl, ?_⟩
  go_grown

set_option maxRecDepth 100000 in
set_option maxHeartbeats 4000000 in
theorem reply_mode (h0 h1 h2 h3 h4 h5 : Int) (h6 h7 h8 h9 h10 h11 h12 : Nat) (s : Int) (r x : Nat) (w : World) (h : HdOk h0 h1 h2 h3 h4 h5) (hm : ¬ h2 = 3) :
    Calls Try.prog 18 #[.agg #[.int .i64 h0, .int .i64 h1, .int .i64 h2, .int .i64 h3, .int .i64 h4, .int .i64 h5, .int .u32 h6, .int .u32 h7, .int .u32 h8, .int .u64 h9, .int .u64 h10, .int .u64 h11, .int .u64 h12], .int .i64 s, .int .u64 r, .int .u64 x] w fun e w' => e = .returned (.tuple #[.agg #[.int .i64 0, .int .i64 0, .int .i64 0, .int .i64 0, .int .i64 0, .int .i64 0, .int .u32 0, .int .u32 0, .int .u32 0, .int .u64 0, .int .u64 0, .int .u64 0, .int .u64 0], .int .i64 3]) ∧ Below w.heap.size w w' := by
  have H := Lib.hid h
  have hm2 : (h2 != 3) = true := by simpa using hm
  clear h
  go_enter Try.func18, Try.ntmps18
  go_wp2_with fail
  refine (valid_ok _ _ _ _ _ _ _ _ _ _ _ _ _ _ H.out).mono ?_
  rintro e w1 ⟨rfl, hb1⟩
  obtain ⟨hc1, hf1, hs1⟩ := below_reads hb1
  have hz : w.heap.size + 1 < w1.heap.size := by simp at hs1; omega
  have hz0 : w.heap.size < w1.heap.size := by omega
  have hz5 : ¬ w.heap.size + 1 = w1.heap.size := by omega
  have hz6 : ¬ w1.heap.size = w.heap.size + 1 := by omega
  have R0 : Below w.heap.size w w1 := below_via (by go_grown) hb1 (by simp; omega)
  have hB0 := Lib.hid (show Blk w1 (w.heap.size + 1) 35 #[.int .i64 0, .int .i64 0, .int .i64 0, .int .i64 0, .int .i64 0, .int .i64 0, .int .u32 0, .int .u32 0, .int .u32 0, .int .u64 0, .int .u64 0, .int .u64 0, .int .u64 0] by
    have := (Blk.new (w.alloc _) 35 #[.int .i64 0, .int .i64 0, .int .i64 0, .int .i64 0, .int .i64 0, .int .i64 0, .int .u32 0, .int .u32 0, .int .u32 0, .int .u64 0, .int .u64 0, .int .u64 0, .int .u64 0]).stays hb1
    simpa using this)
  clear hb1
  go_simp
  repeat (first | go_values | go_skip | go_guarded | go_step)
  refine bodyPost_ret (results_hdSA2 (r := 8) (t := 9) (u := 0) rfl _ rfl hB0.out) rfl ⟨rfl, ?_⟩
  go_grown

set_option maxRecDepth 100000 in
set_option maxHeartbeats 4000000 in
theorem reply_range (h0 h1 h2 h3 h4 h5 : Int) (h6 h7 h8 h9 h10 h11 h12 : Nat) (s : Int) (r x : Nat) (w : World) (h : HdOk h0 h1 h2 h3 h4 h5) (hm : h2 = 3) (hs : s < 0 ∨ 0 ≤ s ∧ 255 < s) :
    Calls Try.prog 18 #[.agg #[.int .i64 h0, .int .i64 h1, .int .i64 h2, .int .i64 h3, .int .i64 h4, .int .i64 h5, .int .u32 h6, .int .u32 h7, .int .u32 h8, .int .u64 h9, .int .u64 h10, .int .u64 h11, .int .u64 h12], .int .i64 s, .int .u64 r, .int .u64 x] w fun e w' => e = .returned (.tuple #[.agg #[.int .i64 0, .int .i64 0, .int .i64 0, .int .i64 0, .int .i64 0, .int .i64 0, .int .u32 0, .int .u32 0, .int .u32 0, .int .u64 0, .int .u64 0, .int .u64 0, .int .u64 0], .int .i64 4]) ∧ Below w.heap.size w w' := by
  subst hm
  have H := Lib.hid h
  have H2 : ¬ HdOk 0 h1 4 s h4 (-20) := by unfold HdOk at h ⊢; omega
  clear h hs
  have G2 := Lib.hid H2
  clear H2
  go_enter Try.func18, Try.ntmps18
  go_wp2_with fail
  refine (valid_ok _ _ _ _ _ _ _ _ _ _ _ _ _ _ H.out).mono ?_
  rintro e w1 ⟨rfl, hb1⟩
  obtain ⟨hc1, hf1, hs1⟩ := below_reads hb1
  have hz : w.heap.size + 1 < w1.heap.size := by simp at hs1; omega
  have hz0 : w.heap.size < w1.heap.size := by omega
  have hz5 : ¬ w.heap.size + 1 = w1.heap.size := by omega
  have hz6 : ¬ w1.heap.size = w.heap.size + 1 := by omega
  have R0 : Below w.heap.size w w1 := below_via (by go_grown) hb1 (by simp; omega)
  have hB0 := Lib.hid (show Blk w1 (w.heap.size + 1) 35 #[.int .i64 0, .int .i64 0, .int .i64 0, .int .i64 0, .int .i64 0, .int .i64 0, .int .u32 0, .int .u32 0, .int .u32 0, .int .u64 0, .int .u64 0, .int .u64 0, .int .u64 0] by
    have := (Blk.new (w.alloc _) 35 #[.int .i64 0, .int .i64 0, .int .i64 0, .int .i64 0, .int .i64 0, .int .i64 0, .int .u32 0, .int .u32 0, .int .u32 0, .int .u64 0, .int .u64 0, .int .u64 0, .int .u64 0]).stays hb1
    simpa using this)
  clear hb1
  go_simp
  repeat (first | go_values | go_skip | go_guarded | go_step)
  refine (valid_bad 0 h1 4 s h4 (-20) 0 0 0 0 h12 r x _ G2.out).mono ?_
  rintro e w2 ⟨rfl, hb2⟩
  obtain ⟨hc2, hf2, hs2⟩ := below_reads hb2
  have hz2 : w1.heap.size < w2.heap.size := by simp at hs2; omega
  have hz4 : w.heap.size < w2.heap.size := by omega
  have hz3 : w.heap.size + 1 < w2.heap.size := by omega
  have R1 : Below w.heap.size w w2 := R0.trans (below_via (by go_grown) (hb2.mono (by simp)) (by simp; omega))
  have hB1 := Lib.hid (show Blk w2 (w.heap.size + 1) 35 #[.int .i64 0, .int .i64 0, .int .i64 0, .int .i64 0, .int .i64 0, .int .i64 0, .int .u32 0, .int .u32 0, .int .u32 0, .int .u64 0, .int .u64 0, .int .u64 0, .int .u64 0] from hB0.out.stays (below_via (by go_grown) hb2 (by simp)))
  clear hb2
  go_simp
  repeat (first | go_values | go_skip | go_guarded | go_step)
  refine bodyPost_ret (results_hdS2 (r := 8) (t := 9) (u := 0) rfl _ rfl hB1.out) rfl ⟨rfl, ?_⟩
  go_grown

theorem reply_err (h0 h1 h2 h3 h4 h5 : Int) (h6 h7 h8 h9 h10 h11 h12 : Nat) (s : Int) (r x : Nat) (w : World) (h : replyE h0 h1 h2 h3 h4 h5 s ≠ 0) :
    Calls Try.prog 18 #[.agg #[.int .i64 h0, .int .i64 h1, .int .i64 h2, .int .i64 h3, .int .i64 h4, .int .i64 h5, .int .u32 h6, .int .u32 h7, .int .u32 h8, .int .u64 h9, .int .u64 h10, .int .u64 h11, .int .u64 h12], .int .i64 s, .int .u64 r, .int .u64 x] w fun e w' => e = .returned (.tuple #[.agg #[.int .i64 0, .int .i64 0, .int .i64 0, .int .i64 0, .int .i64 0, .int .i64 0, .int .u32 0, .int .u32 0, .int .u32 0, .int .u64 0, .int .u64 0, .int .u64 0, .int .u64 0], .int .i64 (replyE h0 h1 h2 h3 h4 h5 s)]) ∧ Below w.heap.size w w' := by
  unfold replyE at h ⊢
  by_cases a : HdOk h0 h1 h2 h3 h4 h5
  · rw [if_pos a] at h ⊢
    by_cases b : h2 = 3
    · rw [if_pos b] at h ⊢
      by_cases c : 0 ≤ s ∧ s ≤ 255
      · rw [if_pos c] at h; exact absurd rfl h
      · rw [if_neg c]; exact reply_range _ _ _ _ _ _ _ _ _ _ _ _ _ _ _ _ _ a b (by omega)
    · rw [if_neg b]; exact reply_mode _ _ _ _ _ _ _ _ _ _ _ _ _ _ _ _ _ a b
  · rw [if_neg a]; exact reply_bad _ _ _ _ _ _ _ _ _ _ _ _ _ _ _ _ _ a

end Go.Proofs.Ytfkckokaclkjnaa
