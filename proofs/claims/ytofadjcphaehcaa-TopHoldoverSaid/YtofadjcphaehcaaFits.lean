/- drift.Fits. -/
import Derived.Test.YtofadjcphaehcaaDrh
namespace Go.Proofs.Ytofadjcphaehcaa
open Go Go.RowKit

/-- Whether d ticks of a clock that drifts by p may be e ticks. -/
def fitsB (e d p : Nat) : Bool := decide (cmp128 e (1000000000 - p) d 1000000000 ≤ 0) && decide (cmp128 d 1000000000 e (1000000000 + p) ≤ 0)
set_option maxRecDepth 100000 in
set_option maxHeartbeats 4000000 in
theorem fits_any (e d p : Nat) (w : World) (he : e ≤ 1152921504606846976) (hd : d ≤ 1152921504606846976) (hp : p ≤ 1000000) : Calls Try.prog 57 #[.int .i64 e, .int .i64 d, .int .i64 p] w fun x w' => x = .returned (.bool (fitsB e d p)) ∧ Below w.heap.size w w' := by
  have K1 := Lib.hid (fun w => exactCompare_any e (1000000000 - p) d 1000000000 w (by omega) (by omega) (by omega) (by decide))
  have K2 := Lib.hid (fun w => exactCompare_any d 1000000000 e (1000000000 + p) w (by omega) (by decide) (by omega) (by omega))
  have HF := Lib.hid (show fitsB e d p = (decide (cmp128 e (1000000000 - p) d 1000000000 ≤ 0) && decide (cmp128 d 1000000000 e (1000000000 + p) ≤ 0)) from rfl)
  obtain ⟨b1, hb1⟩ : ∃ b1, 1000000000 - p = b1 := ⟨_, rfl⟩
  obtain ⟨b2, hb2⟩ : ∃ b2, 1000000000 + p = b2 := ⟨_, rfl⟩
  have e1 : (1000000000 : Int) - (p : Int) = (b1 : Int) := by omega
  have e2 : (1000000000 : Int) + (p : Int) = (b2 : Int) := by omega
  have w1 : IntKind.i64.wrap (b1 : Int) = (b1 : Int) := IntWalk.i64_in _ (by omega)
  have w2 : IntKind.i64.wrap (b2 : Int) = (b2 : Int) := IntWalk.i64_in _ (by omega)
  rw [hb1] at K1 HF
  rw [hb2] at K2 HF
  obtain ⟨x, hx⟩ : ∃ x, cmp128 e b1 d 1000000000 = x := ⟨_, rfl⟩
  obtain ⟨y, hy⟩ : ∃ y, cmp128 d 1000000000 e b2 = y := ⟨_, rfl⟩
  rw [hx] at K1 HF
  rw [hy] at K2 HF
  clear hb1 hb2 hx hy
  have m1 : decide ((e : Int) < 0) = false := decide_eq_false (by omega)
  have m2 : decide ((d : Int) < 0) = false := decide_eq_false (by omega)
  have m3 : decide (1152921504606846976 < (e : Int)) = false := decide_eq_false (by omega)
  have m4 : decide (1152921504606846976 < (d : Int)) = false := decide_eq_false (by omega)
  go_enter Try.func57, Try.ntmps57
  go_wp2_with fail
  all_goals
    refine (bound_yes p _ hp).mono ?_
    rintro r q_ ⟨rfl, rfl⟩
    go_wp2_with fail
    refine (K1.out _).mono ?_
    rintro r y1 ⟨rfl, hb⟩
    have R2 := Lib.hid hb
    have hz_y1 := R2.out.size
    clear hb
    by_cases hx0 : x ≤ 0
    · go_wp2_with fail
      refine (K2.out _).mono ?_
      rintro r y3 ⟨rfl, hb⟩
      have hbx : Below y1.heap.size y1 y3 := below_via (by go_grown) hb (by first | (simp; done) | (simp; omega))
      have R4 := Lib.hid (R2.out.trans (hbx.mono hz_y1))
      clear hb hbx
      have HF2 : Hid (fitsB e d p = decide (y ≤ 0)) := by rw [Hid, HF.out, decide_eq_true hx0, Bool.true_and]
      go_wp2
      go_ret
      exact ⟨by rw [HF2.out]; rfl, R4.out⟩
    · have HF2 : Hid (fitsB e d p = false) := by rw [Hid, HF.out, decide_eq_false hx0, Bool.false_and]
      go_wp2
      go_ret
      exact ⟨by rw [HF2.out]; rfl, R2.out⟩
theorem cmp128_le (a b c d : Nat) : cmp128 a b c d ≤ 0 ↔ a * b ≤ c * d := by
  unfold cmp128
  have h1 := Nat.div_add_mod (a * b) 18446744073709551616
  have h2 := Nat.div_add_mod (c * d) 18446744073709551616
  have l1 : a * b % 18446744073709551616 < 18446744073709551616 := Nat.mod_lt _ (by decide)
  have l2 : c * d % 18446744073709551616 < 18446744073709551616 := Nat.mod_lt _ (by decide)
  generalize a * b = X at *
  generalize c * d = Y at *
  generalize X / 18446744073709551616 = xh at *
  generalize X % 18446744073709551616 = xl at *
  generalize Y / 18446744073709551616 = yh at *
  generalize Y % 18446744073709551616 = yl at *
  unfold orI cmpI
  split <;> split <;> (try split) <;> omega
end Go.Proofs.Ytofadjcphaehcaa
