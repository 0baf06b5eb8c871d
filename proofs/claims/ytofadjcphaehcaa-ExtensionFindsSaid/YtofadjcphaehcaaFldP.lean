/- Plain laws of the fields in bytes (layer 1). -/
import Derived.Test.YtofadjcphaehcaaWrite
import Derived.Test.YtofadjcphaehcaaItems
namespace Go.Proofs.Ytofadjcphaehcaa
open Go.RowKit

/-- The number in the first two bytes. -/
def two (l : List UInt8) : Nat := be64 (l.take 2) 2
theorem two_lt (l : List UInt8) (h : 2 ≤ l.length) : two l < 65536 := by
  match l, h with
  | a :: b :: t, _ =>
    have := a.toNat_lt; have := b.toNat_lt
    simp [two, be64, be]; omega
theorem put_two (l : List UInt8) (h : 2 ≤ l.length) : putL (two l) 2 = l.take 2 := by
  match l, h with
  | a :: b :: t, _ =>
    have h1 := a.toNat_lt; have h2 := b.toNat_lt
    have e : two (a :: b :: t) = a.toNat * 256 + b.toNat := by simp [two, be64, be]; omega
    rw [e]
    simp only [putL, List.take_succ_cons, List.take_zero, Nat.pow_one, Nat.pow_zero, Nat.div_one]
    rw [show (a.toNat * 256 + b.toNat) / 256 = a.toNat by omega]
    congr 1
    · simp
    · congr 1
      apply UInt8.toNat_inj.mp
      simp
      try omega
theorem two_put (v : Nat) (t : List UInt8) (h : v < 65536) : two (putL v 2 ++ t) = v := by
  simp [two, be64, be, putL]; omega
/-- What Fields reads; none where bytes are missing. -/
def fldF : Nat → List UInt8 → Option (List (Int × List UInt8))
  | 0, _ => some []
  | k + 1, b => if b.length = 0 then some [] else if b.length < 4 then none else if b.length - 4 < two (b.drop 2) then none else
      (fldF k (b.drop (4 + two (b.drop 2)))).map ((((two b : Nat) : Int), (b.drop 4).take (two (b.drop 2))) :: ·)
theorem fldF_nil (k : Nat) : fldF k [] = some [] := by cases k <;> simp [fldF]
theorem fldF_map {k : Nat} {b : List UInt8} {fs : List (Int × List UInt8)} {R : Option (List (Int × List UInt8))} (h : (fldF (k + 1) b).map (fs ++ ·) = R) (h4 : 4 ≤ b.length) (hq : two (b.drop 2) ≤ b.length - 4) :
    (fldF k (b.drop (4 + two (b.drop 2)))).map ((fs ++ [(((two b : Nat) : Int), (b.drop 4).take (two (b.drop 2)))]) ++ ·) = R := by
  rw [fldF, if_neg (by omega), if_neg (by omega), if_neg (by omega)] at h
  rw [← h, Option.map_map]
  congr 1
  funext x
  simp
theorem fldF_short {k : Nat} {b : List UInt8} {fs : List (Int × List UInt8)} {R : Option (List (Int × List UInt8))} (h : (fldF k b).map (fs ++ ·) = R) (hk : b.length ≤ k) (h0 : b.length ≠ 0) (h4 : b.length < 4 ∨ b.length - 4 < two (b.drop 2)) : R = none := by
  cases k with
  | zero => omega
  | succ k =>
    rw [← h, fldF, if_neg h0]
    by_cases h5 : b.length < 4
    · rw [if_pos h5]; rfl
    · rw [if_neg h5, if_pos (by omega)]; rfl
/-- What Write writes is read back. -/
theorem fldF_write : ∀ (fs : List (Int × List UInt8)) (k : Nat), (∀ f ∈ fs, 0 ≤ f.1 ∧ f.1 ≤ 65535 ∧ f.2.length ≤ 65535) → (fs.flatMap encF).length ≤ k → fldF k (fs.flatMap encF) = some fs
  | [], k, _, _ => by simpa using fldF_nil k
  | f :: fs, k, h, hk => by
    have hf := h f (by simp)
    have e : (f :: fs).flatMap encF = putL f.1.toNat 2 ++ (putL f.2.length 2 ++ (f.2 ++ fs.flatMap encF)) := by simp [encF]
    have e2 : (putL f.1.toNat 2 ++ (putL f.2.length 2 ++ (f.2 ++ fs.flatMap encF))).drop 2 = putL f.2.length 2 ++ (f.2 ++ fs.flatMap encF) := by
      rw [List.drop_append_of_le_length (by simp [putL_length])]; simp [putL]
    have e4 : (putL f.1.toNat 2 ++ (putL f.2.length 2 ++ (f.2 ++ fs.flatMap encF))).drop 4 = f.2 ++ fs.flatMap encF := by
      rw [show 4 = 2 + 2 from rfl, ← List.drop_drop, e2, List.drop_append_of_le_length (by simp [putL_length])]; simp [putL]
    rw [e] at hk ⊢
    have hl : (putL f.1.toNat 2 ++ (putL f.2.length 2 ++ (f.2 ++ fs.flatMap encF))).length = 4 + (f.2.length + (fs.flatMap encF).length) := by simp only [List.length_append, putL_length]; omega
    rw [hl] at hk
    cases k with
    | zero => omega
    | succ k =>
      rw [fldF, hl, if_neg (by omega), if_neg (by omega), e2, two_put _ _ (by omega), if_neg (by omega), two_put _ _ (by omega), e4, ← List.drop_drop, e4, List.drop_left, List.take_left, fldF_write fs k (fun g hg => h g (by simp [hg])) (by omega)]
      simp only [Option.map_some, Option.some.injEq, List.cons.injEq, and_true]
      ext
      · simp; omega
      · rfl
/-- What is read is written back. -/
theorem fldF_back : ∀ (k : Nat) (b : List UInt8) (fs : List (Int × List UInt8)), b.length ≤ k → fldF k b = some fs → fs.flatMap encF = b ∧ 4 * fs.length ≤ b.length ∧ ∀ f ∈ fs, 0 ≤ f.1 ∧ f.1 ≤ 65535 ∧ f.2.length ≤ 65535
  | 0, b, fs, hk, h => by
    have : b = [] := List.eq_nil_of_length_eq_zero (by omega)
    subst this
    simp [fldF] at h; subst h; simp
  | k + 1, b, fs, hk, h => by
    rw [fldF] at h
    by_cases h0 : b.length = 0
    · rw [if_pos h0] at h
      have : b = [] := List.eq_nil_of_length_eq_zero h0
      subst this
      simp at h; subst h; simp
    rw [if_neg h0] at h
    by_cases h4 : b.length < 4
    · rw [if_pos h4] at h; cases h
    rw [if_neg h4] at h
    by_cases hq : b.length - 4 < two (b.drop 2)
    · rw [if_pos hq] at h; cases h
    rw [if_neg hq] at h
    have h2 := two_lt b (by omega)
    have h3 := two_lt (b.drop 2) (by simp; omega)
    have p1 := put_two b (by omega)
    have p2 := put_two (b.drop 2) (by simp; omega)
    generalize two (b.drop 2) = q at *
    cases hr : fldF k (b.drop (4 + q)) with
    | none => rw [hr] at h; cases h
    | some gs =>
      rw [hr] at h
      simp at h
      subst h
      obtain ⟨i1, i2, i3⟩ := fldF_back k (b.drop (4 + q)) gs (by simp; omega) hr
      refine ⟨?_, by simp at i2 ⊢; omega, fun f hf => ?_⟩
      · rw [List.flatMap_cons, i1, encF]
        simp only [Int.toNat_natCast]
        rw [p1, show (List.take q (List.drop 4 b)).length = q by simp; omega, p2]
        rw [show b.take 2 ++ (b.drop 2).take 2 = b.take 4 by rw [show (4 : Nat) = 2 + 2 from rfl, List.take_add]]
        rw [List.append_assoc, ← List.drop_drop, List.take_append_drop, List.take_append_drop]
      · rcases List.mem_cons.1 hf with rfl | hf
        · simp; omega
        · exact i3 f hf
/-- What Write does where all fits. -/
theorem writeL_ok : ∀ (fs : List (Int × List UInt8)) (out : List UInt8), (∀ f ∈ fs, 0 ≤ f.1 ∧ f.1 ≤ 65535 ∧ f.2.length ≤ 65535) → out.length + (fs.flatMap encF).length ≤ 65535 → writeL fs out = (out ++ fs.flatMap encF, 0)
  | [], out, _, h => by
    have : ¬ 65535 < out.length := by simp at h; omega
    simp [writeL, this]
  | f :: fs, out, h, hl => by
    have hf := h f (by simp)
    rw [List.flatMap_cons, List.length_append] at hl
    rw [writeL, if_neg (by omega), if_neg (by omega), if_pos (by omega), writeL_ok fs _ (fun g hg => h g (by simp [hg])) (by rw [List.length_append]; omega)]
    simp
def encFld (f : Int × List UInt8) (A : Option Addr) (n c : Nat) : List Value := [.int .i64 f.1, .slice A n c]
theorem OwnItems.flds {e : TypeId} {w : World} {B n c : Nat} {A : Option Addr} {fs : List (Int × List UInt8)} (h : OwnItems 2 encFld Prod.snd e w B A n c fs) : FldL w A n c fs := by
  have hl := h.len (by decide)
  obtain ⟨vs, h1, h2⟩ := h.rd
  refine ⟨vs, h1, hl, fun i f hf => ?_⟩
  obtain ⟨A', n', c', e1, e2, _⟩ := h2.2 i f hf
  have a0 := e1 0 (by omega)
  have a1 := e1 1 (by omega)
  simp [encFld] at a0 a1
  exact ⟨A', n', c', a0, a1, e2⟩
theorem rd_pair (w : World) (a b : Value) (e : TypeId) : Rd (w.alloc (.cells #[a, b] e)) 2 (some ⟨w.heap.size, 0, none⟩) 1 1 [a, b] := by
  refine ⟨rfl, Nat.le_refl _, by decide, fun i u hu => ⟨w.heap.size, 0, rfl, ?_⟩⟩
  rw [Nat.zero_add, cell_of_row _ _ _ _ _ (0, 0) (heap_alloc_new _ _), ← hu]
  simp
def slLen : Value → Nat
  | .slice _ n _ => n
  | _ => 0
theorem infoFld : (Try.prog.info? 38).map (fun i => (i.zero, i.size, i.bytes)) = some (some (.agg #[.int .i64 0, .slice none 0 0]), 2, 32) := by kernel_rfl
end Go.Proofs.Ytofadjcphaehcaa
