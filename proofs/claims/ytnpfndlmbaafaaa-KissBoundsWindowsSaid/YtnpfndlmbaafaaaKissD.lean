import Derived.Test.YtnpfndlmbaafaaaKissC
namespace Go.Proofs.Ytnpfndlmbaafaaa
open Go.RowKit

theorem rate2 : strAt codesL 2 = ⟨#[82, 65, 84, 69]⟩ := rfl

set_option maxHeartbeats 1000000 in
theorem kissKnown (w : World) : Calls Try.prog 18 #[] w fun e w' => e = .returned (.bool true) ∧ Below w.heap.size w w' := by
  have HC := Lib.hid (fun (W : World) => kissCode_yes 2 (by omega) W)
  rw [rate2] at HC
  have h2 := Lib.hid (kissName_yes 2 (by omega) (codeN 2) rfl)
  rw [rate2] at h2
  go_enter Try.func18, Try.ntmps18
  go_wp2_with fail
  refine (HC.out _).mono ?_
  rintro e w1 ⟨rfl, hb1⟩
  have hz1 := hb1.size
  go_wp2_with fail
  refine (kissAllow_yes 0 10 1 5 (by omega) (by omega) (by omega) (by omega) (by omega) (by omega) (by omega) (by omega) (by omega) _).mono ?_
  rintro e w2 ⟨rfl, hb2⟩
  obtain ⟨hc2, hf2, hz2⟩ := below_reads hb2
  have hB2 := below_via (B := w.heap.size) (w := w) (by go_grown) hb2 (by simp; omega)
  clear hb2
  have hz3 : w1.heap.size < w2.heap.size := by simp at hz2; omega
  clear hz2
  go_wp2_with fail
  refine (kissAllow_no _ 10 1 14 (by omega) (by omega) (by omega) (by omega) (by omega) (by omega) (by omega) (by omega) (by omega) _).mono ?_
  rintro e w3 ⟨rfl, hb3⟩
  have hB3 := below_via (B := w.heap.size) (w := w) (by go_grown) hb3 (by simp; omega)
  have hs3 := hB3.size
  clear hb3
  go_wp2_with fail
  refine (h2.out _).mono ?_
  rintro e w4 ⟨rfl, hb4⟩
  have hB4 := below_via (B := w.heap.size) (w := w) (by go_grown) hb4 (by simp; omega)
  clear hb4
  go_wp2
  go_ret
  exact ⟨rfl, hB4⟩

theorem prod_within (a b : Int) (h1 : 1 ≤ a) (h2 : a ≤ 100) (h3 : 1 ≤ b) (h4 : b ≤ 8) : 0 ≤ (b - 1) * a ∧ (b - 1) * a ≤ 700 :=
  ⟨Int.mul_nonneg (by omega) (by omega), Int.le_trans (Int.mul_le_mul (show b - 1 ≤ 7 by omega) h2 (by omega) (by omega)) (by omega)⟩

set_option maxHeartbeats 2000000 in
theorem kissWaits_walk (a0 a1 a2 a3 : Int) (w : World) :
    Calls Try.prog 5 #[.int .i64 a0, .int .i64 a1, .int .i64 a2, .int .i64 a3] w fun e w' => e = .returned (.bool true) ∧ Below w.heap.size w w' := by
  obtain ⟨paid, hp⟩ : ∃ x, a0 % 5000 = x := ⟨_, rfl⟩
  obtain ⟨ev, he⟩ : ∃ x, a1 % 100 = x := ⟨_, rfl⟩
  obtain ⟨bu, hbu⟩ : ∃ x, a2 % 8 = x := ⟨_, rfl⟩
  obtain ⟨now, hn⟩ : ∃ x, a3 % 5000 = x := ⟨_, rfl⟩
  have p0 : 0 ≤ paid := by omega
  have p1 : paid < 5000 := by omega
  have e0 : 0 ≤ ev := by omega
  have e1 : ev < 100 := by omega
  have b0 : 0 ≤ bu := by omega
  have b1 : bu < 8 := by omega
  have n0 : 0 ≤ now := by omega
  have n1 : now < 5000 := by omega
  have c1 := Lib.hid (fun W => within_any a0 5000 (by omega) (by omega) W); rw [hp] at c1
  have c2 := Lib.hid (fun W => within_any a1 100 (by omega) (by omega) W); rw [he] at c2
  have c3 := Lib.hid (fun W => within_any a2 8 (by omega) (by omega) W); rw [hbu] at c3
  have c4 := Lib.hid (fun W => within_any a3 5000 (by omega) (by omega) W); rw [hn] at c4
  clear hp he hbu hn
  obtain ⟨q0, q1⟩ := prod_within (1 + ev) (1 + bu) (by omega) (by omega) (by omega) (by omega)
  obtain ⟨wt, hwt⟩ : ∃ x, max 0 (paid - now - (1 + bu - 1) * (1 + ev)) = x := ⟨_, rfl⟩
  have w0 : 0 ≤ wt := by omega
  have w1 : wt ≤ 5000 := by omega
  have HW := Lib.hid hwt
  clear hwt
  go_enter Try.func5, Try.ntmps5
  go_wp2_with fail
  refine (c1.out _).mono ?_
  rintro e w' ⟨rfl, rfl⟩
  go_wp2_with fail
  refine (c2.out _).mono ?_
  rintro e w' ⟨rfl, rfl⟩
  go_wp2_with fail
  refine (c3.out _).mono ?_
  rintro e w' ⟨rfl, rfl⟩
  go_wp2_with fail
  refine (c4.out _).mono ?_
  rintro e w' ⟨rfl, rfl⟩
  go_wp2_with fail
  refine (kissWait_yes _ _ _ _ (by omega) (by omega) (by omega) (by omega) (by omega) (by omega) (by omega) (by omega) _).mono ?_
  rintro e w1 ⟨rfl, hb1⟩
  rw [HW.out]
  obtain ⟨hc1, hf1, hz1⟩ := below_reads hb1
  have hB1 := below_via (B := w.heap.size) (w := w) (by go_grown) hb1 (by simp; omega)
  have hs1 : w.heap.size + 1 < w1.heap.size := by simp at hz1; omega
  have hs2 : w.heap.size < w1.heap.size := by omega
  clear hb1 hz1
  go_wp2_with fail
  refine (kissAllow_yes _ _ _ _ (by omega) (by omega) (by omega) (by omega) (by omega) (by omega) (by omega) (by omega) (by have := HW.out; omega) _).mono ?_
  rintro e w2 ⟨rfl, hb2⟩
  obtain ⟨hc2, hf2, hz2⟩ := below_reads hb2
  have hB2 := hB1.trans (hb2.mono hB1.size)
  have hs3 : w.heap.size + 1 < w2.heap.size := by omega
  have hs4 : w.heap.size < w2.heap.size := by omega
  clear hb2 hz2
  have hs6 := hB2.size
  by_cases hz : wt = 0
  · obtain rfl := hz
    by_cases hok : paid - (now + 0 - 1) - (1 + bu - 1) * (1 + ev) ≤ 0
    · have HOK := Lib.hid hok
      clear hok
      go_wp2_with fail
      refine (kissAllow_yes _ _ _ _ (by omega) (by omega) (by omega) (by omega) (by omega) (by omega) (by omega) (by omega) (by have := HOK.out; omega) _).mono ?_
      rintro e w3 ⟨rfl, hb3⟩
      have hB3 := below_via (B := w.heap.size) (w := w) (by go_grown) hb3 (by simp; omega)
      have hs5 := hB3.size
      clear hb3
      go_wp2_with fail
      refine (kissKnown _).mono ?_
      rintro e w4 ⟨rfl, hb4⟩
      have hB4 := below_via (B := w.heap.size) (w := w) (by go_grown) hb4 (by simp; omega)
      clear hb4
      go_wp2
      go_ret
      exact ⟨rfl, hB4⟩
    · have HOK := Lib.hid hok
      clear hok
      go_wp2_with fail
      refine (kissAllow_no _ _ _ _ (by omega) (by omega) (by omega) (by omega) (by omega) (by omega) (by omega) (by omega) (by have := HOK.out; omega) _).mono ?_
      rintro e w3 ⟨rfl, hb3⟩
      have hB3 := below_via (B := w.heap.size) (w := w) (by go_grown) hb3 (by simp; omega)
      have hs5 := hB3.size
      clear hb3
      go_wp2_with fail
      refine (kissKnown _).mono ?_
      rintro e w4 ⟨rfl, hb4⟩
      have hB4 := below_via (B := w.heap.size) (w := w) (by go_grown) hb4 (by simp; omega)
      clear hb4
      go_wp2
      go_ret
      exact ⟨rfl, hB4⟩
  · have hz0 : (wt == 0) = false := by simpa using hz
    go_wp2_with fail
    refine (kissAllow_no _ _ _ _ (by omega) (by omega) (by omega) (by omega) (by omega) (by omega) (by omega) (by omega) (by have := HW.out; omega) _).mono ?_
    rintro e w3 ⟨rfl, hb3⟩
    have hB3 := below_via (B := w.heap.size) (w := w) (by go_grown) hb3 (by simp; omega)
    have hs5 := hB3.size
    clear hb3
    go_wp2_with fail
    refine (kissKnown _).mono ?_
    rintro e w4 ⟨rfl, hb4⟩
    have hB4 := below_via (B := w.heap.size) (w := w) (by go_grown) hb4 (by simp; omega)
    clear hb4
    go_wp2
    go_ret
    exact ⟨rfl, hB4⟩
end Go.Proofs.Ytnpfndlmbaafaaa
