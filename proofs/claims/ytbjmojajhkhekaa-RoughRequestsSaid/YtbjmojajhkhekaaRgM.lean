/- Coarse-time messages: what Decode gives, in plain words. -/
import Derived.Test.YtbjmojajhkhekaaRgE
namespace Go.Proofs.Ytbjmojajhkhekaa
open Go Go.RowKit

theorem be_lt_n : ∀ (n : Nat) (l : List UInt8), l.length = n → be l < 256 ^ n
  | 0, l, h => by
    have : l = [] := List.eq_nil_of_length_eq_zero h
    subst this; simp [be]
  | n + 1, l, h => by
    rcases List.eq_nil_or_concat l with e | ⟨L, x, e⟩
    · rw [e] at h; simp at h
    · subst e
      have hL : L.length = n := by simpa using h
      have := UInt8.toNat_lt x
      have ih := be_lt_n n L hL
      rw [List.concat_eq_append, be_snoc, Nat.pow_succ]
      omega
theorem be_lt28 (l : List UInt8) : be l < 256 ^ l.length := be_lt_n _ l rfl
/-- Number i of four bytes each. -/
def numT (b : List UInt8) (i : Nat) : Nat := be64 ((b.drop (4 * i)).take 4) 4
theorem numT_lt (b : List UInt8) (i : Nat) : numT b i < 4294967296 := by
  unfold numT be64
  have h := be_lt28 (((b.drop (4 * i)).take 4).take 4)
  have h2 : (((b.drop (4 * i)).take 4).take 4).length ≤ 4 := by simp; omega
  have h3 : (256 : Nat) ^ (((b.drop (4 * i)).take 4).take 4).length ≤ 256 ^ 4 := Nat.pow_le_pow_right (by decide) h2
  have h4 := Nat.mod_le (be (((b.drop (4 * i)).take 4).take 4)) 18446744073709551616
  have h5 : (256 : Nat) ^ 4 = 4294967296 := by decide
  omega
def plB (b : List UInt8) (i : Nat) : Nat := if i = 0 then 0 else numT b i
/-- The places ahead of k are places. -/
def okP (b : List UInt8) (S k : Nat) : Prop := ∀ i, i < k → 1 ≤ i → numT b i % 4 = 0 ∧ plB b (i - 1) ≤ numT b i ∧ numT b i ≤ S
instance (b : List UInt8) (S k : Nat) : Decidable (okP b S k) := by unfold okP; infer_instance
theorem okP.one (b : List UInt8) (S : Nat) : okP b S 1 := fun i h1 h2 => by omega
theorem okP.next {b : List UInt8} {S k : Nat} (h : okP b S k) (h1 : numT b k % 4 = 0) (h2 : plB b (k - 1) ≤ numT b k) (h3 : numT b k ≤ S) : okP b S (k + 1) := fun i hi h0 => by
  by_cases e : i = k
  · subst e; exact ⟨h1, h2, h3⟩
  · exact h i (by omega) h0
theorem okP.not {b : List UInt8} {S k n : Nat} (hk : k < n) (h0 : 1 ≤ k) (h : ¬ (numT b k % 4 = 0 ∧ plB b (k - 1) ≤ numT b k ∧ numT b k ≤ S)) : ¬ okP b S n := fun q => h (q k hk h0)
/-- Where the data of the tag i begins. -/
def atB (b : List UInt8) (n S i : Nat) : Nat := if i < n then plB b i else S
theorem plB_le {b : List UInt8} {S n i : Nat} (h : okP b S n) (hi : i < n) : plB b i ≤ S ∧ plB b i % 4 = 0 := by
  unfold plB
  by_cases h0 : i = 0
  · rw [if_pos h0]; omega
  · rw [if_neg h0]
    have := h i hi (by omega)
    exact ⟨this.2.2, this.1⟩
theorem atB_le {b : List UInt8} {S n i : Nat} (h : okP b S n) (hS : S % 4 = 0) (hi : i < n) : atB b n S i ≤ atB b n S (i + 1) ∧ atB b n S (i + 1) ≤ S ∧ atB b n S i % 4 = 0 ∧ atB b n S (i + 1) % 4 = 0 := by
  have h1 := plB_le h hi
  unfold atB
  rw [if_pos hi]
  by_cases h2 : i + 1 < n
  · rw [if_pos h2]
    have h3 := plB_le h h2
    have h4 := h (i + 1) h2 (by omega)
    have e : plB b (i + 1) = numT b (i + 1) := by rw [plB, if_neg (by omega)]
    rw [e] at h3 ⊢
    have h5 := h4.2.1
    rw [Nat.add_sub_cancel] at h5
    exact ⟨h5, h3.1, h1.2, h3.2⟩
  · rw [if_neg h2]
    exact ⟨h1.1, Nat.le_refl _, h1.2, hS⟩
def nmB (b : List UInt8) (n i : Nat) : ByteArray := strOf ((b.drop (4 * (n + i))).take 4)
def dtB (b : List UInt8) (n S i : Nat) : List UInt8 := ((b.drop (8 * n)).drop (atB b n S i)).take (atB b n S (i + 1) - atB b n S i)
def tagsB (b : List UInt8) (n S k : Nat) : Tags := (List.range k).map fun i => (nmB b n i, dtB b n S i)
theorem tagsB_len (b : List UInt8) (n S k : Nat) : (tagsB b n S k).length = k := by simp [tagsB]
theorem tagsB_next (b : List UInt8) (n S k : Nat) : tagsB b n S (k + 1) = tagsB b n S k ++ [(nmB b n k, dtB b n S k)] := by simp [tagsB, List.range_succ]
theorem tagsB_N (b : List UInt8) {n S k i : Nat} (h : i < k) : tgN (tagsB b n S k) i = nmB b n i := by simp [tgN, tagsB, List.getD, h]
theorem tagsB_D (b : List UInt8) {n S k i : Nat} (h : i < k) : tgD (tagsB b n S k) i = dtB b n S i := by simp [tgD, tagsB, List.getD, h]
theorem dtB_len {b : List UInt8} {n S i : Nat} (h : okP b S n) (hS : S % 4 = 0) (hi : i < n) (hl : b.length = 8 * n + S) : (dtB b n S i).length = atB b n S (i + 1) - atB b n S i := by
  have := atB_le h hS hi
  unfold dtB
  rw [List.length_take, List.length_drop, List.length_drop]; omega
theorem tagsB_few (b : List UInt8) (n S k : Nat) (hb : b.length ≤ 2048) (j : Nat) : (tgD (tagsB b n S k) j).length ≤ 100000 := by
  by_cases h : j < k
  · rw [tagsB_D b h, dtB, List.length_take, List.length_drop, List.length_drop]; omega
  · simp [tgD, tagsB, List.getD, h]
/-- Decode. -/
def decR (b : List UInt8) : Tags × Int :=
  if 2048 < b.length then ([], 2) else if b.length < 4 then ([], 1) else if numT b 0 < 1 ∨ 16 < numT b 0 then ([], 8) else if b.length < 8 * numT b 0 then ([], 1) else
  if okP b (b.length - 8 * numT b 0) (numT b 0) ∧ (b.length - 8 * numT b 0) % 4 = 0 then
    (if firstErr (tagsB b (numT b 0) (b.length - 8 * numT b 0) (numT b 0)) (numT b 0) = 0 then (tagsB b (numT b 0) (b.length - 8 * numT b 0) (numT b 0), 0) else ([], firstErr (tagsB b (numT b 0) (b.length - 8 * numT b 0) (numT b 0)) (numT b 0)))
  else ([], 3)
section
variable {b : List UInt8} {m n S : Nat} (hl : b.length = m)
include hl
theorem decR_long (h : 2048 < m) : decR b = ([], 2) := by subst hl; rw [decR, if_pos h]
theorem decR_short (h1 : m ≤ 2048) (h : m < 4) : decR b = ([], 1) := by subst hl; rw [decR, if_neg (by omega), if_pos h]
variable (h1 : m ≤ 2048) (h4 : 4 ≤ m) (hn : numT b 0 = n)
include h1 h4 hn
theorem decR_limit (h : n < 1 ∨ 16 < n) : decR b = ([], 8) := by subst hl hn; rw [decR, if_neg (by omega), if_neg (by omega), if_pos h]
variable (hn1 : 1 ≤ n) (hn2 : n ≤ 16)
include hn1 hn2
theorem decR_short2 (h : m < 8 * n) : decR b = ([], 1) := by subst hl hn; rw [decR, if_neg (by omega), if_neg (by omega), if_neg (by omega), if_pos h]
variable (hS : m = 8 * n + S)
include hS
theorem decR_form (h : ¬ (okP b S n ∧ S % 4 = 0)) : decR b = ([], 3) := by
  subst hl hn
  have e : b.length - 8 * numT b 0 = S := by omega
  rw [decR, if_neg (by omega), if_neg (by omega), if_neg (by omega), if_neg (by omega), e, if_neg h]
theorem decR_err (ho : okP b S n) (h0 : S % 4 = 0) {e : Int} (he : firstErr (tagsB b n S n) n = e) (h : e ≠ 0) : decR b = ([], e) := by
  subst hl hn he
  have e : b.length - 8 * numT b 0 = S := by omega
  rw [decR, if_neg (by omega), if_neg (by omega), if_neg (by omega), if_neg (by omega), e, if_pos ⟨ho, h0⟩, if_neg h]
theorem decR_ok (ho : okP b S n) (h0 : S % 4 = 0) (he : firstErr (tagsB b n S n) n = 0) : decR b = (tagsB b n S n, 0) := by
  subst hl hn
  have e : b.length - 8 * numT b 0 = S := by omega
  rw [decR, if_neg (by omega), if_neg (by omega), if_neg (by omega), if_neg (by omega), e, if_pos ⟨ho, h0⟩, if_pos he]
end
end Go.Proofs.Ytbjmojajhkhekaa
