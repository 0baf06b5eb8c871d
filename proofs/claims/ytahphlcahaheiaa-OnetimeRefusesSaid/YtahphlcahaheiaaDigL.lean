/- The plain law of OnetimeDigits. -/
import Derived.Test.YtahphlcahaheiaaDig
namespace Go.Proofs.Ytahphlcahaheiaa
open Go.RowKit

def digN (l : List UInt8) (i : Nat) : Nat := (allD l).getD i 0
def sumTo (l : List UInt8) : Nat → Nat
  | 0 => 0
  | j + 1 => sumTo l j + (15 - digN l j)
def lessTo (a b : List UInt8) : Nat → Bool
  | 0 => false
  | j + 1 => lessTo a b j || decide (digN a j < digN b j)

theorem getD_in {l : List Nat} {i : Nat} (h : i < l.length) : l.getD i 0 = l[i] := by simp [List.getD, h]
theorem getD_out {l : List Nat} {i : Nat} (h : l.length ≤ i) : l.getD i 0 = 0 := by simp [List.getD, h]
theorem digs_length : ∀ l : List UInt8, (digs l).length = 2 * l.length
  | [] => rfl
  | x :: l => by
    have := digs_length l
    simp only [digs, List.flatMap_cons, List.length_append, List.length_cons, List.length_nil] at this ⊢
    omega
theorem allD_length (l : List UInt8) (h : l.length = 16) : (allD l).length = 35 := by
  rw [allD, List.length_append, digs_length, h]; rfl
theorem digs_le : ∀ (l : List UInt8), ∀ d ∈ digs l, d ≤ 15
  | [], d, h => by simp [digs] at h
  | x :: l, d, h => by
    have hx := UInt8.toNat_lt x
    simp only [digs, List.flatMap_cons, List.mem_append, List.mem_cons, List.not_mem_nil, or_false] at h
    rcases h with (h | h) | h
    · omega
    · omega
    · exact digs_le l d h
theorem digN_le (l : List UInt8) (i : Nat) : digN l i ≤ 15 := by
  have h : ∀ d ∈ allD l, d ≤ 15 := by
    intro d hd
    rw [allD, List.mem_append] at hd
    rcases hd with hd | hd
    · exact digs_le l d hd
    · simp only [tailD, List.mem_cons, List.not_mem_nil, or_false] at hd
      omega
  unfold digN
  rcases Nat.lt_or_ge i (allD l).length with hi | hi
  · rw [getD_in hi]; exact h _ (List.getElem_mem hi)
  · rw [getD_out hi]; omega
theorem digN_low (l : List UInt8) (i : Nat) (h : i < (digs l).length) : digN l i = (digs l)[i] := by
  unfold digN allD
  rw [getD_in (by rw [List.length_append]; omega), List.getElem_append_left h]
theorem sumTo_take (l : List UInt8) : ∀ j, j ≤ (digs l).length → sumTo l j = sumD ((digs l).take j)
  | 0, _ => by simp [sumTo, sumD]
  | j + 1, h => by
    have e : (digs l).take (j + 1) = (digs l).take j ++ [(digs l)[j]] := List.take_succ_eq_append_getElem (by omega)
    rw [sumTo, sumTo_take l j (by omega), e, digN_low l j (by omega)]
    unfold sumD
    rw [List.map_append, List.sum_append]
    rfl
theorem sumTo_le (l : List UInt8) : ∀ j, sumTo l j ≤ 15 * j
  | 0 => by simp [sumTo]
  | j + 1 => by have := sumTo_le l j; rw [sumTo]; omega
theorem sumTo_all (l : List UInt8) (h : l.length = 16) : sumTo l 32 = sumD (digs l) := by
  have h2 : (digs l).length = 32 := by rw [digs_length, h]
  rw [sumTo_take l 32 (by omega), List.take_of_length_le (by omega)]
theorem digN_tail (l : List UInt8) (h : l.length = 16) (i : Nat) : digN l (32 + i) = (tailD (sumTo l 32)).getD i 0 := by
  have h2 : (digs l).length = 32 := by rw [digs_length, h]
  rw [sumTo_all l h]
  unfold digN allD List.getD
  rw [List.getElem?_append_right (by omega), h2, Nat.add_sub_cancel_left]
theorem sum_says (l : List UInt8) (h : l.length = 16) : sumTo l 32 = 256 * digN l 32 + 16 * digN l 33 + digN l 34 := by
  have h0 := digN_tail l h 0
  have h1 := digN_tail l h 1
  have h2 := digN_tail l h 2
  have h3 := sumTo_le l 32
  simp only [tailD, List.getD, List.getElem?_cons_zero, List.getElem?_cons_succ, Option.getD_some] at h0 h1 h2
  rw [show (32 : Nat) = 32 + 0 from rfl] at *
  simp only [Nat.add_zero, Nat.reduceAdd] at *
  omega
theorem lessTo_self (a : List UInt8) : ∀ j, lessTo a a j = false
  | 0 => rfl
  | j + 1 => by rw [lessTo, lessTo_self a j]; simp
theorem lessTo_false (a b : List UInt8) : ∀ j, lessTo a b j = false → ∀ i, i < j → digN b i ≤ digN a i
  | 0, _, i, hi => by omega
  | j + 1, h, i, hi => by
    rw [lessTo, Bool.or_eq_false_iff, decide_eq_false_iff_not] at h
    rcases Nat.lt_or_ge i j with h1 | h1
    · exact lessTo_false a b j h.1 i h1
    · obtain rfl : i = j := by omega
      omega
theorem sumTo_mono (a b : List UInt8) : ∀ j, (∀ i, i < j → digN b i ≤ digN a i) → sumTo a j ≤ sumTo b j ∧ (sumTo a j = sumTo b j → ∀ i, i < j → digN a i = digN b i)
  | 0, _ => ⟨Nat.le_refl _, fun _ i hi => by omega⟩
  | j + 1, h => by
    obtain ⟨h1, h2⟩ := sumTo_mono a b j (fun i hi => h i (by omega))
    have h3 := h j (by omega)
    have h4 := digN_le a j
    rw [sumTo, sumTo]
    refine ⟨by omega, fun he i hi => ?_⟩
    rcases Nat.lt_or_ge i j with h5 | h5
    · exact h2 (by omega) i h5
    · obtain rfl : i = j := by omega
      omega
theorem digs_inj : ∀ a b : List UInt8, a.length = b.length → digs a = digs b → a = b
  | [], [], _, _ => rfl
  | [], _ :: _, h, _ => by simp at h
  | _ :: _, [], h, _ => by simp at h
  | x :: a, y :: b, h, e => by
    simp only [digs, List.flatMap_cons, List.cons_append, List.nil_append, List.cons.injEq] at e
    have := digs_inj a b (by simpa using h) e.2.2
    rw [this]
    congr 1
    apply UInt8.toNat_inj.1
    omega
theorem less_of_ne (a b : List UInt8) (ha : a.length = 16) (hb : b.length = 16) (h : a ≠ b) : lessTo a b 35 = true := by
  rcases hh : lessTo a b 35 with _ | _
  · exfalso
    have h1 := lessTo_false a b 35 hh
    obtain ⟨h2, h3⟩ := sumTo_mono a b 32 (fun i hi => h1 i (by omega))
    have h4 := sum_says a ha
    have h5 := sum_says b hb
    have h6 := h1 32 (by omega)
    have h7 := h1 33 (by omega)
    have h8 := h1 34 (by omega)
    have h9 := h3 (by omega)
    apply h
    apply digs_inj a b (by rw [ha, hb])
    have l1 : (digs a).length = 32 := by rw [digs_length, ha]
    have l2 : (digs b).length = 32 := by rw [digs_length, hb]
    apply List.ext_getElem (by rw [l1, l2])
    intro i hi hi2
    rw [← digN_low a i hi, ← digN_low b i hi2]
    exact h9 i (by omega)
  · rfl
end Go.Proofs.Ytahphlcahaheiaa
