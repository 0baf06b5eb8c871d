/- Numbers in bytes and back: plain laws. -/
import Derived.Test.YtbjmojajhkhekaaBase
namespace Go.Proofs.Ytbjmojajhkhekaa
open Go.RowKit

theorem pb_be_putL (v k : Nat) (hk : k ≤ 8) (X : List UInt8) : be64 (putL v k ++ X) k = v % 256 ^ k := by
  unfold be64
  rw [List.take_append_of_le_length (by rw [putL_length]; exact Nat.le_refl _), List.take_of_length_le (by rw [putL_length]; exact Nat.le_refl _), be_putL]
  apply Nat.mod_eq_of_lt
  have h1 := Nat.mod_lt v (Nat.pow_pos (n := k) (show 0 < 256 by omega))
  have h2 : 256 ^ k ≤ 256 ^ 8 := Nat.pow_le_pow_right (by omega) hk
  omega
theorem pb_putL_be (l : List UInt8) : putL (be l) l.length = l := by
  have key : ∀ (l : List UInt8) (m : Nat), putL (be l + m * 256 ^ l.length) l.length = l := by
    intro l
    induction l with
    | nil => intro m; rfl
    | cons x l ih =>
      intro m
      rw [List.length_cons, putL, be_cons]
      have hb : be l < 256 ^ l.length := by
        have := be_putL (be l) l.length
        have h2 := ih 0
        simp at h2
        rw [h2] at this
        rw [this]
        exact Nat.mod_lt _ (Nat.pow_pos (by omega))
      congr 1
      · apply UInt8.toNat_inj.mp
        have hx := UInt8.toNat_lt x
        simp only [UInt8.toNat_ofNat']
        rw [show x.toNat * 256 ^ l.length + be l + m * 256 ^ (l.length + 1) = be l + 256 ^ l.length * (x.toNat + m * 256) by
          rw [Nat.pow_succ, Nat.mul_add, Nat.mul_comm x.toNat, Nat.mul_comm m, Nat.mul_assoc (256 ^ l.length), Nat.mul_comm 256 m]; omega]
        rw [Nat.add_mul_div_left _ _ (Nat.pow_pos (by omega)), Nat.div_eq_of_lt hb]
        omega
      · rw [show x.toNat * 256 ^ l.length + be l + m * 256 ^ (l.length + 1) = be l + (x.toNat + m * 256) * 256 ^ l.length by
          rw [Nat.pow_succ, Nat.add_mul, Nat.mul_comm (256 ^ l.length) 256, ← Nat.mul_assoc]; omega]
        exact ih _
  have := key l 0
  simpa using this
theorem pb_be_lt (l : List UInt8) : be l < 256 ^ l.length := by
  have h := be_putL (be l) l.length
  rw [pb_putL_be] at h
  rw [h]; exact Nat.mod_lt _ (Nat.pow_pos (by omega))
/-- The number of the first k bytes, written again. -/
theorem pb_putL_be64 (X : List UInt8) (k : Nat) (hk : k ≤ 8) (hl : k ≤ X.length) : putL (be64 X k) k = X.take k := by
  have hlen : (X.take k).length = k := by simp; omega
  have h1 := pb_be_lt (X.take k)
  have h2 := pb_putL_be (X.take k)
  rw [hlen] at h1 h2
  have h3 : 256 ^ k ≤ 256 ^ 8 := Nat.pow_le_pow_right (by omega) hk
  unfold be64
  rw [Nat.mod_eq_of_lt (by omega), h2]
theorem pb_be64_lt (X : List UInt8) (k : Nat) : be64 X k < 256 ^ k ∨ X.length < k := by
  rcases Nat.lt_or_ge X.length k with h | h
  · exact .inr h
  · left
    have hlen : (X.take k).length = k := by simp; omega
    have h1 := pb_be_lt (X.take k)
    rw [hlen] at h1
    unfold be64
    exact Nat.lt_of_le_of_lt (Nat.mod_le _ _) h1
end Go.Proofs.Ytbjmojajhkhekaa
