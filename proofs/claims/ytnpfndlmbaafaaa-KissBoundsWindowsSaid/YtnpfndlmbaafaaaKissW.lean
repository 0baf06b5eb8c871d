/- KissBoundsWindows, the plain law: what a bucket permits in a span. No program in sight. -/
import Derived.Test.YtnpfndlmbaafaaaBase
namespace Go.Proofs.Ytnpfndlmbaafaaa
open Go.RowKit

def numAt (l : List Int) (k : Nat) : Int := l.getD k 0
theorem numAt_old (l : List Int) (t : Int) (i : Nat) (h : i < l.length) : numAt (l ++ [t]) i = numAt l i := by
  unfold numAt; simp [List.getElem?_append, h]
theorem numAt_new (l : List Int) (t : Int) : numAt (l ++ [t]) l.length = t := by
  unfold numAt; simp

structure Win (E B p t : Int) (l : List Int) : Prop where
  p0 : 0 ≤ p
  t0 : 0 ≤ t
  pb : p ≤ t + B * E
  lo : ∀ i, i < l.length → numAt l i + ((l.length : Int) - i) * E ≤ p
  at0 : ∀ i, i < l.length → 0 ≤ numAt l i ∧ numAt l i ≤ t
  pr : ∀ i k, i ≤ k → k < l.length → ((k : Int) - i) * E ≤ numAt l k - numAt l i + (B - 1) * E ∧ numAt l i ≤ numAt l k

theorem Win.nil {E B : Int} (hE : 1 ≤ E) (hB : 1 ≤ B) : Win E B 0 0 [] :=
  ⟨by omega, by omega, by have : 0 ≤ B * E := Int.mul_nonneg (by omega) (by omega); omega, fun i h => by simp at h, fun i h => by simp at h, fun i k _ h => by simp at h⟩

theorem Win.no {E B p t : Int} {l : List Int} (h : Win E B p t l) {t' : Int} (ht : t ≤ t') : Win E B p t' l :=
  ⟨h.p0, by have := h.t0; omega, by have := h.pb; omega, h.lo, fun i hi => ⟨(h.at0 i hi).1, by have := (h.at0 i hi).2; omega⟩, h.pr⟩

theorem Win.yes {E B p t : Int} {l : List Int} (h : Win E B p t l) {t' : Int} (ht : t ≤ t') (hE : 1 ≤ E) (hB : 1 ≤ B) (hok : p - t' - (B - 1) * E ≤ 0) :
    Win E B (max p t' + E) t' (l ++ [t']) := by
  have hBE : (B - 1) * E = B * E - E := by rw [Int.sub_mul, Int.one_mul]
  have hBE0 : 0 ≤ (B - 1) * E := Int.mul_nonneg (by omega) (by omega)
  have hp0 := h.p0
  have ht0 := h.t0
  have hn : (l ++ [t']).length = l.length + 1 := by simp
  have low : ∀ i, i < l.length → numAt l i + ((l.length : Int) + 1 - i) * E ≤ p + E := fun i hi => by
    have h1 := h.lo i hi
    have h2 : ((l.length : Int) + 1 - i) * E = ((l.length : Int) - i) * E + E := by
      rw [show (l.length : Int) + 1 - i = ((l.length : Int) - i) + 1 by omega, Int.add_mul, Int.one_mul]
    omega
  refine ⟨by omega, by omega, by omega, fun i hi => ?_, fun i hi => ?_, fun i k hik hk => ?_⟩
  · rw [hn] at hi ⊢
    rw [show ((l.length + 1 : Nat) : Int) = (l.length : Int) + 1 by omega]
    rcases Nat.lt_or_ge i l.length with hl | hl
    · rw [numAt_old _ _ _ hl]
      have := low i hl
      omega
    · obtain rfl : i = l.length := by omega
      rw [numAt_new, show (l.length : Int) + 1 - l.length = 1 by omega, Int.one_mul]
      omega
  · rw [hn] at hi
    rcases Nat.lt_or_ge i l.length with hl | hl
    · rw [numAt_old _ _ _ hl]
      have := h.at0 i hl
      omega
    · obtain rfl : i = l.length := by omega
      rw [numAt_new]
      omega
  · rw [hn] at hk
    rcases Nat.lt_or_ge k l.length with hl | hl
    · rw [numAt_old _ _ _ hl, numAt_old _ _ _ (by omega)]
      exact h.pr i k hik hl
    · obtain rfl : k = l.length := by omega
      rw [numAt_new]
      rcases Nat.lt_or_ge i l.length with hi | hi
      · rw [numAt_old _ _ _ hi]
        have h1 := h.lo i hi
        have h2 := h.at0 i hi
        omega
      · obtain rfl : i = l.length := by omega
        rw [numAt_new, show (l.length : Int) - l.length = 0 by omega, Int.zero_mul]
        omega

theorem Win.fits {E B p t : Int} {l : List Int} (h : Win E B p t l) (hE : 1 ≤ E) (i k : Nat) (hik : i ≤ k) (hk : k < l.length) :
    ((k : Int) - i + 1) ≤ B + (numAt l k - numAt l i).tdiv E := by
  obtain ⟨h1, h2⟩ := h.pr i k hik hk
  rw [Int.tdiv_eq_ediv_of_nonneg (by omega)]
  have h3 : (k : Int) - i + 1 - B ≤ (numAt l k - numAt l i) / E := by
    rw [Int.le_ediv_iff_mul_le (by omega)]
    have e : ((k : Int) - i + 1 - B) * E = ((k : Int) - i) * E - (B - 1) * E := by
      rw [show (k : Int) - i + 1 - B = ((k : Int) - i) - (B - 1) by omega, Int.sub_mul]
    omega
  omega
/-- A question that comes too early comes less than E behind the one before. -/
theorem Win.early {E B p t : Int} {l : List Int} (h : Win E B p t l) {t' : Int} (hno : 0 < p - t' - (B - 1) * E) : t' - t < E := by
  have hBE : (B - 1) * E = B * E - E := by rw [Int.sub_mul, Int.one_mul]
  have := h.pb
  omega
end Go.Proofs.Ytnpfndlmbaafaaa
