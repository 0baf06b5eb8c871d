/- Plain laws of octets.Hex and Unhex. -/
import Derived.Test.YtofadjcphaehcaaUnhC
namespace Go.Proofs.Ytofadjcphaehcaa
theorem hexL_at (l : List UInt8) : ∀ i, i < l.length → byteAt (hexL l) (2 * i) = (digit (byteAt l i / 16)).toNat ∧ byteAt (hexL l) (2 * i + 1) = (digit (byteAt l i % 16)).toNat := by
  induction l with
  | nil => intro i h; simp at h
  | cons x l ih =>
    intro i h
    cases i with
    | zero => exact ⟨rfl, rfl⟩
    | succ i =>
      have := ih i (by simpa using h)
      have e1 : byteAt (hexL (x :: l)) (2 * (i + 1)) = byteAt (hexL l) (2 * i) := by
        rw [show 2 * (i + 1) = 2 * i + 1 + 1 by omega]; rfl
      have e2 : byteAt (hexL (x :: l)) (2 * (i + 1) + 1) = byteAt (hexL l) (2 * i + 1) := by
        rw [show 2 * (i + 1) + 1 = 2 * i + 1 + 1 + 1 by omega]; rfl
      rw [e1, e2]; exact this
theorem hexL_digits (l : List UInt8) (i : Nat) (h : i < l.length) : hexV (byteAt (hexL l) (2 * i)) = some (byteAt l i / 16) ∧ hexV (byteAt (hexL l) (2 * i + 1)) = some (byteAt l i % 16) := by
  have hb := byteAt_lt l i
  obtain ⟨e1, e2⟩ := hexL_at l i h
  exact ⟨(digit_nat _ (by omega) _ (byteAt_lt _ _)).1 e1.symm, (digit_nat _ (by omega) _ (byteAt_lt _ _)).1 e2.symm⟩
theorem okU_hex (l : List UInt8) : okU (hexL l) := by
  refine ⟨by rw [hexL_length]; omega, fun i hi => ?_⟩
  rw [hexL_length] at hi
  have hd := hexL_digits l (i / 2) (by omega)
  unfold good
  rcases Nat.mod_two_eq_zero_or_one i with h | h
  · rw [show i = 2 * (i / 2) by omega, hd.1]; rfl
  · rw [show i = 2 * (i / 2) + 1 by omega, hd.2]; rfl
theorem unhex_hex (l : List UInt8) : unhexR (hexL l) l.length = l := by
  apply List.ext_getElem
  · simp [unhexR]
  · intro i h1 h2
    have hd := hexL_digits l i h2
    have hb := byteAt_lt l i
    simp only [unhexR, List.getElem_map, List.getElem_range, pairU, dU, hd.1, hd.2, Option.getD_some]
    have e : byteAt l i = (l[i]).toNat := by simp [byteAt, h2, List.getD]
    rw [show 16 * (byteAt l i / 16) + byteAt l i % 16 = byteAt l i by omega, e]
    simp
theorem hex_unhex (s : List UInt8) (n : Nat) (h : okU s) (hn : s.length = 2 * n) : hexL (unhexR s n) = s := by
  have hlu : (unhexR s n).length = n := by simp [unhexR]
  have key : ∀ i, i < s.length → byteAt (hexL (unhexR s n)) i = byteAt s i := by
    intro i hi
    have hk : i / 2 < (unhexR s n).length := by omega
    obtain ⟨e1, e2⟩ := hexL_at (unhexR s n) (i / 2) hk
    have hl1 := dU_lt s (2 * (i / 2))
    have hl2 := dU_lt s (2 * (i / 2) + 1)
    have hb : byteAt (unhexR s n) (i / 2) = 16 * dU s (2 * (i / 2)) + dU s (2 * (i / 2) + 1) := by
      unfold byteAt
      rw [List.getD, List.getElem?_eq_getElem hk]
      simp only [unhexR, List.getElem_map, List.getElem_range, pairU, Option.getD_some]
      simp; omega
    have hg := h.2 i hi
    rcases Nat.mod_two_eq_zero_or_one i with h0 | h0
    · have hg' : hexV (byteAt s (2 * (i / 2))) = some (dU s (2 * (i / 2))) := by
        rw [show 2 * (i / 2) = i by omega]; unfold good at hg; unfold dU
        cases hh : hexV (byteAt s i) with
        | none => rw [hh] at hg; cases hg
        | some d => rfl
      have := (digit_nat _ hl1 _ (byteAt_lt s _)).2 hg'
      rw [show i = 2 * (i / 2) by omega, e1, hb, ← this]
      congr 2; omega
    · have hg' : hexV (byteAt s (2 * (i / 2) + 1)) = some (dU s (2 * (i / 2) + 1)) := by
        rw [show 2 * (i / 2) + 1 = i by omega]; unfold good at hg; unfold dU
        cases hh : hexV (byteAt s i) with
        | none => rw [hh] at hg; cases hg
        | some d => rfl
      have := (digit_nat _ hl2 _ (byteAt_lt s _)).2 hg'
      rw [show i = 2 * (i / 2) + 1 by omega, e2, hb, ← this]
      congr 2; omega
  apply List.ext_getElem
  · rw [hexL_length, hlu]; omega
  · intro i h1 h2
    have := key i h2
    simp only [byteAt, List.getD, List.getElem?_eq_getElem h1, List.getElem?_eq_getElem h2, Option.getD_some] at this
    exact UInt8.toNat_inj.mp this
end Go.Proofs.Ytofadjcphaehcaa
