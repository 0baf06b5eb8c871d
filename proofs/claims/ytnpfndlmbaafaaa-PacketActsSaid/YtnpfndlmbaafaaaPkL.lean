/- Headers: what Decode makes of Encode's bytes, and Encode of Decode's header: plain laws. -/
import Derived.Test.YtnpfndlmbaafaaaPkB
import Derived.Test.YtnpfndlmbaafaaaPkG
import Derived.Test.YtnpfndlmbaafaaaPutBe
namespace Go.Proofs.Ytnpfndlmbaafaaa
open Go.RowKit

def dcL (b : List UInt8) : Nat := byteAt b 0 / 64
def dcV (b : List UInt8) : Nat := byteAt b 0 / 8 % 8
def dcM (b : List UInt8) : Nat := byteAt b 0 % 8
def dcU (b : List UInt8) (i k : Nat) : Nat := be64 (b.drop i) k
theorem drop_len (A B : List UInt8) (n : Nat) (h : A.length = n) : (A ++ B).drop n = B := by subst h; simp
theorem dec_enc (l v m s : Nat) (p q : Int) (h6 h7 h8 h9 h10 h11 h12 : Nat) (rest : List UInt8) (h : HdOk l v m s p q) (z6 : h6 < 4294967296) (z7 : h7 < 4294967296) (z8 : h8 < 4294967296) (z9 : h9 < 18446744073709551616) (z10 : h10 < 18446744073709551616) (z11 : h11 < 18446744073709551616) (z12 : h12 < 18446744073709551616) (b : List UInt8) (hb : b = hdBytes l v m s p q h6 h7 h8 h9 h10 h11 h12 ++ rest) :
    dcL b = l ∧ dcV b = v ∧ dcM b = m ∧ byteAt b 1 = s ∧ sgnB (byteAt b 2) = p ∧ sgnB (byteAt b 3) = q ∧ dcU b 4 4 = h6 ∧ dcU b 8 4 = h7 ∧ dcU b 12 4 = h8 ∧ dcU b 16 8 = h9 ∧ dcU b 24 8 = h10 ∧ dcU b 32 8 = h11 ∧ dcU b 40 8 = h12 ∧ b.drop 48 = rest := by
  obtain ⟨⟨a0, b0⟩, ⟨a1, b1⟩, ⟨a2, b2⟩, ⟨a3, b3⟩, ⟨a4, b4⟩, ⟨a5, b5⟩⟩ := h
  have hb' : b = hdHead l v m s p q ++ (putL h6 4 ++ (putL h7 4 ++ (putL h8 4 ++ (putL h9 8 ++ (putL h10 8 ++ (putL h11 8 ++ (putL h12 8 ++ rest))))))) := by rw [hb]; simp only [hdBytes, List.append_assoc]
  have e4 : b.drop 4 = putL h6 4 ++ (putL h7 4 ++ (putL h8 4 ++ (putL h9 8 ++ (putL h10 8 ++ (putL h11 8 ++ (putL h12 8 ++ rest)))))) := by rw [hb']; exact drop_len _ _ 4 rfl
  have e8 : b.drop 8 = putL h7 4 ++ (putL h8 4 ++ (putL h9 8 ++ (putL h10 8 ++ (putL h11 8 ++ (putL h12 8 ++ rest))))) := by rw [show (8 : Nat) = 4 + 4 from rfl, ← List.drop_drop, e4]; exact drop_len _ _ 4 (putL_length _ _)
  have e12 : b.drop 12 = putL h8 4 ++ (putL h9 8 ++ (putL h10 8 ++ (putL h11 8 ++ (putL h12 8 ++ rest)))) := by rw [show (12 : Nat) = 8 + 4 from rfl, ← List.drop_drop, e8]; exact drop_len _ _ 4 (putL_length _ _)
  have e16 : b.drop 16 = putL h9 8 ++ (putL h10 8 ++ (putL h11 8 ++ (putL h12 8 ++ rest))) := by rw [show (16 : Nat) = 12 + 4 from rfl, ← List.drop_drop, e12]; exact drop_len _ _ 4 (putL_length _ _)
  have e24 : b.drop 24 = putL h10 8 ++ (putL h11 8 ++ (putL h12 8 ++ rest)) := by rw [show (24 : Nat) = 16 + 8 from rfl, ← List.drop_drop, e16]; exact drop_len _ _ 8 (putL_length _ _)
  have e32 : b.drop 32 = putL h11 8 ++ (putL h12 8 ++ rest) := by rw [show (32 : Nat) = 24 + 8 from rfl, ← List.drop_drop, e24]; exact drop_len _ _ 8 (putL_length _ _)
  have e40 : b.drop 40 = putL h12 8 ++ rest := by rw [show (40 : Nat) = 32 + 8 from rfl, ← List.drop_drop, e32]; exact drop_len _ _ 8 (putL_length _ _)
  have e48 : b.drop 48 = rest := by rw [show (48 : Nat) = 40 + 8 from rfl, ← List.drop_drop, e40]; exact drop_len _ _ 8 (putL_length _ _)
  have y0 : byteAt b 0 = l * 64 + v * 8 + m := by rw [hb']; simp [hdHead, byteAt]; omega
  have y1 : byteAt b 1 = s := by rw [hb']; simp [hdHead, byteAt]; omega
  have y2 : byteAt b 2 = (p % 256).toNat := by rw [hb']; simp [hdHead, byteAt]; omega
  have y3 : byteAt b 3 = (q % 256).toNat := by rw [hb']; simp [hdHead, byteAt]; omega
  refine ⟨by unfold dcL; omega, by unfold dcV; omega, by unfold dcM; omega, y1, ?_, ?_, ?_, ?_, ?_, ?_, ?_, ?_, ?_, e48⟩
  · rw [y2]; unfold sgnB; split <;> omega
  · rw [y3]; unfold sgnB; split <;> omega
  · unfold dcU; rw [e4, pb_be_putL _ _ (by decide)]; omega
  · unfold dcU; rw [e8, pb_be_putL _ _ (by decide)]; omega
  · unfold dcU; rw [e12, pb_be_putL _ _ (by decide)]; omega
  · unfold dcU; rw [e16, pb_be_putL _ _ (by decide)]; omega
  · unfold dcU; rw [e24, pb_be_putL _ _ (by decide)]; omega
  · unfold dcU; rw [e32, pb_be_putL _ _ (by decide)]; omega
  · unfold dcU; rw [e40, pb_be_putL _ _ (by decide)]; omega
theorem hdBytes_len (l v m s : Nat) (p q : Int) (h6 h7 h8 h9 h10 h11 h12 : Nat) : (hdBytes l v m s p q h6 h7 h8 h9 h10 h11 h12).length = 48 := by simp [hdBytes, hdHead, putL_length]
theorem dc_ok (b : List UInt8) (hv : dcV b = 3 ∨ dcV b = 4) : HdOk (dcL b) (dcV b) (dcM b) (byteAt b 1) (sgnB (byteAt b 2)) (sgnB (byteAt b 3)) := by
  have y0 := byteAt_lt b 0
  have y1 := byteAt_lt b 1
  have y2 := sgnB_in _ (byteAt_lt b 2)
  have y3 := sgnB_in _ (byteAt_lt b 3)
  unfold HdOk dcL dcM
  omega
theorem enc_dec (b : List UInt8) (hl : 48 ≤ b.length) : hdBytes (dcL b) (dcV b) (dcM b) (byteAt b 1) (sgnB (byteAt b 2)) (sgnB (byteAt b 3)) (dcU b 4 4) (dcU b 8 4) (dcU b 12 4) (dcU b 16 8) (dcU b 24 8) (dcU b 32 8) (dcU b 40 8) = b.take 48 := by
  have t : ∀ i k, i + k ≤ b.length → b.take (i + k) = b.take i ++ (b.drop i).take k := fun i k _ => List.take_add
  have hw : ∀ i k, k ≤ 8 → i + k ≤ b.length → putL (dcU b i k) k = (b.drop i).take k := fun i k hk hi => pb_putL_be64 _ _ hk (by rw [List.length_drop]; omega)
  have h4 : hdHead (dcL b) (dcV b) (dcM b) (byteAt b 1) (sgnB (byteAt b 2)) (sgnB (byteAt b 3)) = b.take 4 := by
    match b, hl with
    | x0 :: x1 :: x2 :: x3 :: r, _ =>
      have z0 := UInt8.toNat_lt x0
      have z2 := UInt8.toNat_lt x2
      have z3 := UInt8.toNat_lt x3
      have e0 : dcL (x0 :: x1 :: x2 :: x3 :: r) * 64 + dcV (x0 :: x1 :: x2 :: x3 :: r) * 8 + dcM (x0 :: x1 :: x2 :: x3 :: r) = x0.toNat := by
        simp [dcL, dcV, dcM, byteAt]; omega
      have e2 : (sgnB (byteAt (x0 :: x1 :: x2 :: x3 :: r) 2) % 256).toNat = x2.toNat := by simp [byteAt, sgnB]; split <;> omega
      have e3 : (sgnB (byteAt (x0 :: x1 :: x2 :: x3 :: r) 3) % 256).toNat = x3.toNat := by simp [byteAt, sgnB]; split <;> omega
      rw [hdHead, e0, e2, e3]
      simp [byteAt]
  rw [show (48 : Nat) = 40 + 8 from rfl, t 40 8 (by omega), show (40 : Nat) = 32 + 8 from rfl, t 32 8 (by omega), show (32 : Nat) = 24 + 8 from rfl, t 24 8 (by omega), show (24 : Nat) = 16 + 8 from rfl, t 16 8 (by omega), show (16 : Nat) = 12 + 4 from rfl, t 12 4 (by omega), show (12 : Nat) = 8 + 4 from rfl, t 8 4 (by omega), show (8 : Nat) = 4 + 4 from rfl, t 4 4 (by omega)]
  unfold hdBytes
  rw [h4]
  simp only [Nat.reduceAdd]
  rw [hw 4 4 (by omega) (by omega), hw 8 4 (by omega) (by omega), hw 12 4 (by omega) (by omega), hw 16 8 (by omega) (by omega), hw 24 8 (by omega) (by omega), hw 32 8 (by omega) (by omega), hw 40 8 (by omega) (by omega)]
end Go.Proofs.Ytnpfndlmbaafaaa
