/- What a clock that drifts within its bound tells: the plain law of TopHoldover. -/
import Derived.Test.YtfkckokaclkjnaaFitsG
namespace Go.Proofs.Ytfkckokaclkjnaa
open Go Go.RowKit

theorem quoN_le (p c : Nat) (u : Bool) : quoN p c u ≤ p / c + 1 := by unfold quoN; split <;> omega
theorem quoN_ge (p c : Nat) (u : Bool) : p / c ≤ quoN p c u := by unfold quoN; split <;> omega
theorem quoN_down (p c : Nat) : quoN p c false = p / c := by unfold quoN; simp
theorem quoN_up (p c : Nat) (hc : 0 < c) : p ≤ quoN p c true * c := by
  have h := Nat.div_add_mod p c
  have hm := Nat.mod_lt p hc
  rw [Nat.mul_comm] at h
  unfold quoN
  by_cases hr : 0 < p % c
  · rw [decide_eq_true hr, Bool.true_and, if_pos rfl, Nat.add_mul, Nat.one_mul]
    omega
  · rw [decide_eq_false hr, Bool.true_and, if_neg (by decide)]
    omega
theorem adv_le (e p : Nat) : aLo e p ≤ aHi e p := by
  unfold aLo aHi
  rw [quoN_down]
  exact Nat.le_trans (Nat.div_le_div_right (Nat.mul_le_mul_left e (by omega))) (quoN_ge _ _ _)
theorem adv_lt {e p d : Nat} (he : e < 281474976710656) (hp : p ≤ 1000000) (hd : d ≤ aHi e p) : d < 562949953421312 := by
  have h1 : e * (1000000000 + p) ≤ 281474976710656 * 1001000000 := Nat.mul_le_mul (by omega) (by omega)
  have h2 : e * (1000000000 + p) / 1000000000 ≤ 281756451687367 := by
    refine Nat.le_of_lt_succ ((Nat.div_lt_iff_lt_mul (by decide)).2 ?_)
    exact Nat.lt_of_le_of_lt h1 (by decide)
  have h3 := quoN_le (e * (1000000000 + p)) 1000000000 true
  unfold aHi at hd
  omega
theorem fits_self (e p : Nat) : fitsB e e p = true := by
  unfold fitsB
  rw [Bool.and_eq_true, decide_eq_true_eq, decide_eq_true_eq, cmp128_le, cmp128_le]
  exact ⟨Nat.mul_le_mul_left e (by omega), Nat.mul_le_mul_left e (by omega)⟩
theorem fits_holds {e d p : Nat} (hp : p ≤ 1000000) (h : fitsB e d p = true) : eLo d p ≤ e ∧ e ≤ eHi d p := by
  unfold fitsB at h
  rw [Bool.and_eq_true, decide_eq_true_eq, decide_eq_true_eq, cmp128_le, cmp128_le] at h
  obtain ⟨h1, h2⟩ := h
  unfold eLo eHi
  rw [quoN_down]
  constructor
  · exact Nat.div_le_of_le_mul (by rw [Nat.mul_comm (1000000000 + p)]; exact h2)
  · have h3 := quoN_up (d * 1000000000) (1000000000 - p) (by omega)
    exact Nat.le_of_mul_le_mul_right (Nat.le_trans h1 h3) (by omega)
theorem el_le (d p : Nat) (hp : p ≤ 1000000) : eLo d p ≤ eHi d p := by
  unfold eLo eHi
  rw [quoN_down]
  exact Nat.le_trans (Nat.div_le_div_left (by omega) (by omega)) (quoN_ge _ _ _)
theorem el_wide {d p : Nat} (hd : d < 562949953421312) (hp : p ≤ 1000000) : eHi d p ≤ eLo d p + 2199023255552 := by
  have h0 := quoN_le (d * 1000000000) (1000000000 - p) true
  unfold eLo eHi
  rw [quoN_down]
  obtain ⟨X, hX⟩ : ∃ X, d * 1000000000 = X := ⟨_, rfl⟩
  rw [hX] at h0 ⊢
  obtain ⟨q, hq⟩ : ∃ q, X / (1000000000 + p) = q := ⟨_, rfl⟩
  have h1 : X < (1000000000 + p) * (q + 1) := by rw [← hq]; exact Nat.lt_mul_div_succ X (by omega)
  have h2 : q ≤ d := by
    rw [← hq, ← hX]
    exact Nat.div_le_of_le_mul (by rw [Nat.mul_comm]; exact Nat.mul_le_mul_right d (by omega))
  rw [hq]
  have h3 : q * p ≤ 562949953421312 * 1000000 := Nat.mul_le_mul (by omega) hp
  obtain ⟨c, hc⟩ : ∃ c, 1000000000 - p = c := ⟨_, rfl⟩
  have hcp : c + p = 1000000000 := by omega
  have h4 : X / c < q + 2199023255551 := by
    refine (Nat.div_lt_iff_lt_mul (by omega)).2 (Nat.lt_of_lt_of_le h1 ?_)
    have e1 : (1000000000 + p) * (q + 1) = q * c + 2 * (q * p) + 1000000000 + p := by
      rw [← hcp, Nat.mul_add, Nat.add_mul, Nat.add_mul, Nat.mul_comm c q, Nat.mul_comm p q]; omega
    rw [e1, Nat.add_mul]
    have h5 : 2199023255551 * 999000000 ≤ 2199023255551 * c := Nat.mul_le_mul_left _ (by omega)
    omega
  rw [hc] at h0 ⊢
  omega
theorem el_lt {d p : Nat} (hd : d < 562949953421312) (hp : p ≤ 1000000) : eLo d p ≤ d := by
  unfold eLo
  rw [quoN_down]
  exact Nat.div_le_of_le_mul (by rw [Nat.mul_comm]; exact Nat.mul_le_mul_right d (by omega))
/-- The one era of a timestamp that a span of less than an era's width meets. -/
theorem era_one {lo hi t q D : Int} (h1 : lo ≤ t) (h2 : t ≤ hi) (hw : hi - lo < 4503599627370496) (ht : t = q * 4503599627370496 + D) (hD0 : 0 ≤ D) (hD : D < 4503599627370496) :
    (lo - D + 4503599627370495) / 4503599627370496 = q ∧ (hi - D) / 4503599627370496 = q := by omega
end Go.Proofs.Ytfkckokaclkjnaa
