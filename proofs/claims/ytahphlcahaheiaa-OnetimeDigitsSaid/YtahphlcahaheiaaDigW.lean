/- The walk of OnetimeDigits: the law. -/
import Derived.Test.YtahphlcahaheiaaDigV
import Derived.Deep.DeepCutAuto
import Derived.Deep.QuietTactic
import Derived.BigQuiet
import Derived.Outline
namespace Go.Proofs.Ytahphlcahaheiaa
open Go.RowKit

set_option maxRecDepth 100000 in
set_option maxHeartbeats 8000000 in
theorem oneDigits_main (A1 : Option Addr) (c1 : Nat) (l1 : List UInt8) (A2 : Option Addr) (c2 : Nat) (l2 : List UInt8) (w : World) (h1 : Bytes w A1 16 c1 l1) (h2 : Bytes w A2 16 c2 l2) :
    Calls Try.prog 3 #[.slice A1 16 c1, .slice A2 16 c2] w fun e w' => e = .returned (.bool true) ∧ Below w.heap.size w w' := by
  have hle1 := h1.le
  have hle2 := h2.le
  have hcap1 := h1.cap
  have hcap2 := h2.cap
  have H1 := Lib.hid h1
  have H2 := Lib.hid h2
  have hl1 := h1.len
  have hl2 := h2.len
  clear h1 h2
  go_enter Try.func3, Try.ntmps3
  go_wp2_with fail
  refine (digits_any _ _ _ _ H1.out).mono ?_
  rintro e w1 ⟨Ax, cx, rfl, hx, hb1⟩
  have hs1 := hb1.size
  go_wp2_with fail
  refine (digits_any _ _ _ _ (H2.out.stays hb1)).mono ?_
  rintro e w2 ⟨Ay, cy, rfl, hy, hb2⟩
  have hx := hx.stays hb2
  have hB2 := hb1.trans (hb2.mono hs1)
  have hs2 := hB2.size
  have hcx := hx.2.1
  have hcy := hy.2.1
  obtain ⟨bx, ox, rfl, rx⟩ := row35 hx hl1
  obtain ⟨by_, oy, rfl, ry⟩ := row35 hy hl2
  have HX := Lib.hid rx
  have HY := Lib.hid ry
  clear hx hy rx ry hb1 hb2
  go_wp2_with fail
  go_loopw [11, 12, 13, 14] (fun s t u i wr => ∃ j : Nat, j ≤ 35 ∧ i = .int .i64 j ∧ s = .bool (lessTo l1 l2 j) ∧ t = .bool (lessTo l2 l1 j) ∧ u = .int .i64 (sumTo l1 (min j 32)) ∧ Below w2.heap.size w2 wr) (fun _ _ _ i _ => 35 - (intOf i).toNat)
  case atStart => exact ⟨0, by omega, rfl, rfl, rfl, rfl, Below.refl _ _⟩
  case round =>
    obtain ⟨j, hj, rfl, rfl, rfl, rfl, hbr⟩ := hrel
    by_cases hj35 : j < 35
    · have kx : ∀ w', Below w2.heap.size w2 w' → w'.cell? ⟨bx, ox + j, none⟩ = some (.int .i64 (digN l1 j)) := fun w' hb => cell_stays hb (HX.out j hj35)
      have ky : ∀ w', Below w2.heap.size w2 w' → w'.cell? ⟨by_, oy + j, none⟩ = some (.int .i64 (digN l2 j)) := fun w' hb => cell_stays hb (HY.out j hj35)
      have dx := digN_le l1 j
      have dy := digN_le l2 j
      have vx := kx wr hbr
      have vy := ky wr hbr
      obtain ⟨lf, hlf⟩ : ∃ lf, lessTo l1 l2 j = lf := ⟨_, rfl⟩
      obtain ⟨mf, hmf⟩ : ∃ mf, lessTo l2 l1 j = mf := ⟨_, rfl⟩
      obtain ⟨x, hdx⟩ : ∃ x, digN l1 j = x := ⟨_, rfl⟩
      obtain ⟨y, hdy⟩ : ∃ y, digN l2 j = y := ⟨_, rfl⟩
      have e1 : Hid (lessTo l1 l2 (j + 1) = (lf || decide (x < y))) := by unfold Hid; rw [lessTo, hlf, hdx, hdy]
      have e2 : Hid (lessTo l2 l1 (j + 1) = (mf || decide (y < x))) := by unfold Hid; rw [lessTo, hmf, hdx, hdy]
      have e3 : Hid (sumTo l1 (min (j + 1) 32) = if j < 32 then sumTo l1 (min j 32) + (15 - x) else sumTo l1 (min j 32)) := by
        unfold Hid
        by_cases h : j < 32
        · rw [if_pos h, show min (j + 1) 32 = j + 1 by omega, show min j 32 = j by omega, sumTo, hdx]
        · rw [if_neg h, show min (j + 1) 32 = min j 32 by omega]
      have hS := sumTo_le l1 (min j 32)
      obtain ⟨S, hSS⟩ : ∃ S, sumTo l1 (min j 32) = S := ⟨_, rfl⟩
      rw [hlf, hmf, hSS]
      rw [hdx] at vx dx
      rw [hdy] at vy dy
      rw [hSS] at e3 hS
      clear kx ky hlf hmf hdx hdy hSS
      go_upto_region 14 with fail
      have hj0 : (0 : Int) ≤ (j : Int) := by omega
      have hj1 : (j : Int) < 35 := by omega
      have hwj : IntKind.i64.wrap (j : Int) = (j : Int) := IntWalk.i64_in _ (by omega)
      go_cut [11, 12] (fun s t wx => s = .bool (lf || decide (x < y)) ∧ t = .bool (mf || decide (y < x)) ∧ Below wr.heap.size wr wx)
      case first =>
        cases lf <;> cases mf
        all_goals
          go_quiet (fail)
          go_wp2_with fail
          go_meet
          exact ⟨by simp, by simp, below_draws (Below.refl _ _) _⟩
      case rest =>
        obtain ⟨rfl, rfl, hbc⟩ := hcut
        have vx := cell_stays hbc vx
        have hB5 := hbr.trans (hbc.mono hbr.size)
        clear hbc
        by_cases hj32 : j < 32
        · rw [if_pos hj32] at e3
          go_wp2_with fail
          go_roundw
          case rel => exact ⟨j + 1, by omega, by go_num, by rw [e1.out], by rw [e2.out], by rw [e3.out]; go_num, hB5⟩
          case measure => simp [intOf]; omega
        · rw [if_neg hj32] at e3
          go_wp2_with fail
          go_roundw
          case rel => exact ⟨j + 1, by omega, by go_num, by rw [e1.out], by rw [e2.out], by rw [e3.out], hB5⟩
          case measure => simp [intOf]; omega
    · obtain rfl : j = 35 := by omega
      have kx := fun i hi => cell_stays hbr (HX.out i hi)
      have v2 := kx 32 (by omega)
      have v3 := kx 33 (by omega)
      have v4 := kx 34 (by omega)
      have hs := sum_says l1 hl1
      rw [Nat.min_eq_right (show 32 ≤ 35 by omega)]
      have d2 := digN_le l1 32
      have d3 := digN_le l1 33
      have d4 := digN_le l1 34
      generalize sumTo l1 32 = S at hs
      generalize digN l1 32 = x2 at *
      generalize digN l1 33 = x3 at *
      generalize digN l1 34 = x4 at *
      clear kx
      have ht : (S : Int) = 256 * (x2 : Int) + 16 * (x3 : Int) + (x4 : Int) := by omega
      clear hs
      have hB6 := hB2.trans (hbr.mono hs2)
      have hs6 := hB6.size
      have G1 := Lib.hid ((H1.out.stays hB6))
      have G2 := Lib.hid ((H2.out.stays hB6))
      by_cases hq : l1 = l2
      · have q1 : lessTo l1 l2 35 = false := by rw [hq]; exact lessTo_self _ _
        have q2 : lessTo l2 l1 35 = false := by rw [hq]; exact lessTo_self _ _
        rw [q1, q2]
        clear q1 q2
        go_upto_region 17 with fail
        go_quiet (fail)
        clear ht
        go_wp2_with fail
        refine (oneKnown _).mono ?_
        rintro e w3 ⟨rfl, hb3⟩
        have hB7 : Below wr.heap.size wr w3 := (below_draws (Below.refl _ _) _).trans (hb3.mono (Nat.le_refl _))
        have K1 := Lib.hid (refSame_any _ _ _ _ _ _ _ _ _ (G1.out.stays hB7) (G2.out.stays hB7))
        clear hb3
        go_wp2_with fail
        refine K1.out.mono ?_
        rintro e w4 ⟨rfl, rfl⟩
        rw [decide_eq_true hq]
        go_wp2_with fail
        go_ret
        exact ⟨rfl, below_then hB6 hB7⟩
      · have q1 : lessTo l1 l2 35 = true := less_of_ne _ _ hl1 hl2 hq
        have q2 : lessTo l2 l1 35 = true := less_of_ne _ _ hl2 hl1 (Ne.symm hq)
        rw [q1, q2]
        clear q1 q2
        go_upto_region 17 with fail
        go_quiet (fail)
        clear ht
        go_wp2_with fail
        refine (oneKnown _).mono ?_
        rintro e w3 ⟨rfl, hb3⟩
        have hB7 : Below wr.heap.size wr w3 := (below_draws (Below.refl _ _) _).trans (hb3.mono (Nat.le_refl _))
        have K1 := Lib.hid (refSame_any _ _ _ _ _ _ _ _ _ (G1.out.stays hB7) (G2.out.stays hB7))
        clear hb3
        go_wp2_with fail
        refine K1.out.mono ?_
        rintro e w4 ⟨rfl, rfl⟩
        rw [decide_eq_false hq]
        go_wp2_with fail
        refine K1.out.mono ?_
        rintro e w4 ⟨rfl, rfl⟩
        rw [decide_eq_false hq]
        go_wp2_with fail
        go_ret
        exact ⟨rfl, below_then hB6 hB7⟩

theorem oneDigits_walk (A1 : Option Addr) (n1 c1 : Nat) (l1 : List UInt8) (A2 : Option Addr) (n2 c2 : Nat) (l2 : List UInt8) (w : World) (h1 : Bytes w A1 n1 c1 l1) (h2 : Bytes w A2 n2 c2 l2) (hz : c1 ≤ 140737488351232) :
    Calls Try.prog 3 #[.slice A1 n1 c1, .slice A2 n2 c2] w fun e w' => e = .returned (.bool true) ∧ Below w.heap.size w w' := by
  by_cases hn : n1 = 16 ∧ n2 = 16
  · obtain ⟨rfl, rfl⟩ := hn
    exact oneDigits_main A1 c1 l1 A2 c2 l2 w h1 h2
  · exact oneDigits_bad A1 n1 c1 l1 A2 n2 c2 l2 w h1 h2 hz hn
end Go.Proofs.Ytahphlcahaheiaa
