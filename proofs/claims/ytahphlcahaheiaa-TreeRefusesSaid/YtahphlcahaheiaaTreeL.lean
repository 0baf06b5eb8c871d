/- Hash trees in plain Lean, and their laws: no program in sight. -/
import Derived.Test.YtahphlcahaheiaaSha
namespace Go.Proofs.Ytahphlcahaheiaa
open Go.RowKit

def leafL (b : List UInt8) : List UInt8 := sumL (0 :: b)
def nodeL (l r : List UInt8) : List UInt8 := sumL (1 :: (l ++ r))
/-- The greatest power of two below n (n is at least 2). -/
def halfN (n : Nat) : Nat := 2 ^ (n - 1).log2
theorem half_pos (n : Nat) : 0 < halfN n := Nat.two_pow_pos _
theorem half_lt {n : Nat} (h : 2 ≤ n) : halfN n < n := by
  have := Nat.log2_self_le (n := n - 1) (by omega)
  unfold halfN; omega
theorem half_le {n : Nat} (h : 2 ≤ n) : n ≤ 2 * halfN n := by
  have h1 := @Nat.lt_log2_self (n - 1)
  rw [Nat.pow_succ] at h1
  unfold halfN; omega
/-- It is the only one. -/
theorem half_only {n k a : Nat} (hk : k = 2 ^ a) (h1 : k < n) (h2 : n ≤ 2 * k) : halfN n = k := by
  have h3 := half_lt (n := n) (by have := Nat.two_pow_pos a; omega)
  have h4 := half_le (n := n) (by have := Nat.two_pow_pos a; omega)
  unfold halfN at h3 h4 ⊢
  subst hk
  congr 1
  rcases Nat.lt_trichotomy (n - 1).log2 a with h | h | h
  · have : 2 ^ ((n - 1).log2 + 1) ≤ 2 ^ a := Nat.pow_le_pow_right (by omega) h
    rw [Nat.pow_succ] at this; omega
  · exact h
  · have : 2 ^ (a + 1) ≤ 2 ^ (n - 1).log2 := Nat.pow_le_pow_right (by omega) h
    rw [Nat.pow_succ] at this; omega

def rootL (hs : List (List UInt8)) : List UInt8 :=
  if hs.length = 0 then sumL [] else if hs.length ≤ 1 then hs.getD 0 [] else nodeL (rootL (hs.take (halfN hs.length))) (rootL (hs.drop (halfN hs.length)))
termination_by hs.length
decreasing_by
  · have := half_lt (n := hs.length) (by omega); simp; omega
  · have := half_pos hs.length; simp; omega
def pathL (hs : List (List UInt8)) (i : Nat) : List (List UInt8) :=
  if hs.length ≤ 1 then [] else if i < halfN hs.length then pathL (hs.take (halfN hs.length)) i ++ [rootL (hs.drop (halfN hs.length))] else pathL (hs.drop (halfN hs.length)) (i - halfN hs.length) ++ [rootL (hs.take (halfN hs.length))]
termination_by hs.length
decreasing_by
  · have := half_lt (n := hs.length) (by omega); simp; omega
  · have := half_pos hs.length; simp; omega
/-- One element more of a path. -/
def one (g : List UInt8 → List UInt8 → List UInt8) : Option (List UInt8 × List (List UInt8)) → Option (List UInt8 × List (List UInt8))
  | none => none
  | some (_, []) => none
  | some (r, y :: ys) => some (g r y, ys)
def two (g : List UInt8 → List UInt8 → List UInt8 → List UInt8 × List UInt8) : Option (List UInt8 × List UInt8 × List (List UInt8)) → Option (List UInt8 × List UInt8 × List (List UInt8))
  | none => none
  | some (_, _, []) => none
  | some (a, b, y :: ys) => some ((g a b y).1, (g a b y).2, ys)
def both : List (List UInt8) → Option (List UInt8 × List UInt8 × List (List UInt8))
  | [] => none
  | y :: ys => some (y, y, ys)
def climbL (n i : Nat) (x : List UInt8) (p : List (List UInt8)) : Option (List UInt8 × List (List UInt8)) :=
  if n ≤ 1 then some (x, p) else if i < halfN n then one nodeL (climbL (halfN n) i x p) else one (fun r y => nodeL y r) (climbL (n - halfN n) (i - halfN n) x p)
termination_by n
decreasing_by
  · exact half_lt (by omega)
  · have := half_pos n; omega
def proofL (hs : List (List UInt8)) (m : Nat) (known : Bool) : List (List UInt8) :=
  if hs.length ≤ 1 ∨ m = hs.length then (if known then [] else [rootL hs]) else if m ≤ halfN hs.length then proofL (hs.take (halfN hs.length)) m known ++ [rootL (hs.drop (halfN hs.length))] else proofL (hs.drop (halfN hs.length)) (m - halfN hs.length) false ++ [rootL (hs.take (halfN hs.length))]
termination_by hs.length
decreasing_by
  · have := half_lt (n := hs.length) (by omega); simp; omega
  · have := half_pos hs.length; simp; omega
def grownL (m n : Nat) (known : Bool) (old : List UInt8) (p : List (List UInt8)) : Option (List UInt8 × List UInt8 × List (List UInt8)) :=
  if n ≤ 1 ∨ m = n then (if known then some (old, old, p) else both p) else if m ≤ halfN n then two (fun a b y => (a, nodeL b y)) (grownL m (halfN n) known old p) else two (fun a b y => (nodeL y a, nodeL y b)) (grownL (m - halfN n) (n - halfN n) false old p)
termination_by n
decreasing_by
  · exact half_lt (by omega)
  · have := half_pos n; omega

theorem rootL_one (hs : List (List UInt8)) (h : hs.length = 1) : rootL hs = hs.getD 0 [] := by rw [rootL, if_neg (by omega), if_pos (by omega)]
theorem rootL_more (hs : List (List UInt8)) (h : 2 ≤ hs.length) : rootL hs = nodeL (rootL (hs.take (halfN hs.length))) (rootL (hs.drop (halfN hs.length))) := by
  conv => lhs; rw [rootL]
  rw [if_neg (by omega), if_neg (by omega)]

/-- A path of a tree leads to its root. -/
theorem climb_path (hs : List (List UInt8)) (i : Nat) (ext : List (List UInt8)) (hi : i < hs.length) : climbL hs.length i (hs.getD i []) (pathL hs i ++ ext) = some (rootL hs, ext) := by
  induction hn : hs.length using Nat.strongRecOn generalizing hs i ext with
  | ind n ih =>
    subst hn
    rw [climbL, pathL]
    by_cases h1 : hs.length ≤ 1
    · obtain rfl : i = 0 := by omega
      rw [if_pos h1, if_pos h1, rootL_one hs (by omega)]; rfl
    · have hp := half_pos hs.length
      have hl := half_lt (n := hs.length) (by omega)
      rw [if_neg h1, if_neg h1, rootL_more hs (by omega)]
      by_cases h2 : i < halfN hs.length
      · rw [if_pos h2, if_pos h2, List.append_assoc]
        have hlen : (hs.take (halfN hs.length)).length = halfN hs.length := by simp; omega
        have := ih (halfN hs.length) hl (hs.take (halfN hs.length)) i ([rootL (hs.drop (halfN hs.length))] ++ ext) (by omega) hlen
        rw [show (hs.take (halfN hs.length)).getD i [] = hs.getD i [] by simp [List.getD, h2]] at this
        rw [this]; rfl
      · rw [if_neg h2, if_neg h2, List.append_assoc]
        have hlen : (hs.drop (halfN hs.length)).length = hs.length - halfN hs.length := by simp
        have := ih (hs.length - halfN hs.length) (by omega) (hs.drop (halfN hs.length)) (i - halfN hs.length) ([rootL (hs.take (halfN hs.length))] ++ ext) (by omega) hlen
        rw [show (hs.drop (halfN hs.length)).getD (i - halfN hs.length) [] = hs.getD i [] by simp [List.getD]; congr 2; omega] at this
        rw [this]; rfl

/-- The number of elements that a path to leaf i of n has. -/
def depthN (n i : Nat) : Nat :=
  if n ≤ 1 then 0 else if i < halfN n then depthN (halfN n) i + 1 else depthN (n - halfN n) (i - halfN n) + 1
termination_by n
decreasing_by
  · exact half_lt (by omega)
  · have := half_pos n; omega
theorem path_length (hs : List (List UInt8)) (i : Nat) : (pathL hs i).length = depthN hs.length i := by
  induction hn : hs.length using Nat.strongRecOn generalizing hs i with
  | ind n ih =>
    subst hn
    rw [pathL, depthN]
    by_cases h1 : hs.length ≤ 1
    · rw [if_pos h1, if_pos h1]; rfl
    · have hp := half_pos hs.length
      have hl := half_lt (n := hs.length) (by omega)
      rw [if_neg h1, if_neg h1]
      split
      · have hlen : (hs.take (halfN hs.length)).length = halfN hs.length := by simp; omega
        rw [List.length_append, ih _ hl _ i hlen]; rfl
      · have hlen : (hs.drop (halfN hs.length)).length = hs.length - halfN hs.length := by simp
        rw [List.length_append, ih _ (by omega) _ _ hlen]; rfl
/-- Climbing uses as many elements as the depth says, and fails with fewer. -/
theorem climb_some (n i : Nat) (x : List UInt8) (p : List (List UInt8)) : (depthN n i ≤ p.length → ∃ r, climbL n i x p = some (r, p.drop (depthN n i))) ∧ (p.length < depthN n i → climbL n i x p = none) := by
  induction n using Nat.strongRecOn generalizing i with
  | ind n ih =>
    rw [climbL, depthN]
    by_cases h1 : n ≤ 1
    · rw [if_pos h1, if_pos h1]; simp
    · have hp := half_pos n
      have hlt := half_lt (n := n) (by omega)
      rw [if_neg h1, if_neg h1]
      have key : ∀ (d : Nat) (o : Option (List UInt8 × List (List UInt8))) (g : List UInt8 → List UInt8 → List UInt8),
          ((d ≤ p.length → ∃ r, o = some (r, p.drop d)) ∧ (p.length < d → o = none)) →
          (d + 1 ≤ p.length → ∃ r, one g o = some (r, p.drop (d + 1))) ∧ (p.length < d + 1 → one g o = none) := by
        intro d o g ⟨h2, h3⟩
        refine ⟨fun h => ?_, fun h => ?_⟩
        · obtain ⟨r, e⟩ := h2 (by omega)
          rw [e, List.drop_eq_getElem_cons (by omega)]
          exact ⟨_, rfl⟩
        · by_cases h4 : p.length < d
          · rw [h3 h4]; rfl
          · obtain ⟨r, e⟩ := h2 (by omega)
            rw [e, List.drop_of_length_le (by omega)]; rfl
      split
      · exact key _ _ nodeL (ih _ hlt i)
      · exact key _ _ (fun r y => nodeL y r) (ih _ (by omega) _)

/-- A proof of growth shows both roots. -/
theorem grown_proof (hs : List (List UInt8)) (m : Nat) (known : Bool) (old : List UInt8) (ext : List (List UInt8)) (h0 : 1 ≤ m) (hm : m ≤ hs.length) (ho : known = true → old = rootL (hs.take m)) :
    grownL m hs.length known old (proofL hs m known ++ ext) = some (rootL (hs.take m), rootL hs, ext) := by
  induction hn : hs.length using Nat.strongRecOn generalizing hs m known ext with
  | ind n ih =>
    subst hn
    rw [grownL, proofL]
    by_cases h1 : hs.length ≤ 1 ∨ m = hs.length
    · have hmn : m = hs.length := by omega
      rw [if_pos h1, if_pos h1]
      subst hmn
      rw [List.take_of_length_le (Nat.le_refl _)] at ho ⊢
      cases known with
      | true => rw [ho rfl]; rfl
      | false => rfl
    · have hp := half_pos hs.length
      have hl := half_lt (n := hs.length) (by omega)
      have hr := rootL_more hs (by omega)
      rw [if_neg h1, if_neg h1]
      by_cases h2 : m ≤ halfN hs.length
      · rw [if_pos h2, if_pos h2, List.append_assoc]
        have hlen : (hs.take (halfN hs.length)).length = halfN hs.length := by simp; omega
        have ht : (hs.take (halfN hs.length)).take m = hs.take m := by rw [List.take_take]; congr 1; omega
        have := ih (halfN hs.length) hl (hs.take (halfN hs.length)) m known ([rootL (hs.drop (halfN hs.length))] ++ ext) h0 (by omega) (by rw [ht]; exact ho) hlen
        rw [ht] at this
        rw [this, hr]; rfl
      · rw [if_neg h2, if_neg h2, List.append_assoc]
        have hlen : (hs.drop (halfN hs.length)).length = hs.length - halfN hs.length := by simp
        have := ih (hs.length - halfN hs.length) (by omega) (hs.drop (halfN hs.length)) (m - halfN hs.length) false ([rootL (hs.take (halfN hs.length))] ++ ext) (by omega) (by omega) (by intro h; cases h) hlen
        have hk := half_le (n := hs.length) (by omega)
        have hm : halfN m = halfN hs.length := half_only (a := (hs.length - 1).log2) rfl (by omega) (by omega)
        have hml : (hs.take m).length = m := by simp; omega
        have hr2 := rootL_more (hs.take m) (by omega)
        rw [hml, hm, List.take_take, Nat.min_eq_left (by omega), List.drop_take] at hr2
        rw [this, hr, hr2]; rfl
end Go.Proofs.Ytahphlcahaheiaa
