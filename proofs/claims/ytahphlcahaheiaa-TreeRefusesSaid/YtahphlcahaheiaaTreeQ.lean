/- Trees: lengths of roots, paths and proofs; a path checks. -/
import Derived.Test.YtahphlcahaheiaaTreeN
namespace Go.Proofs.Ytahphlcahaheiaa
open Go.RowKit

theorem rootL_len (hs : List (List UInt8)) (h : all32 hs) : (rootL hs).length = 32 := by
  by_cases h0 : hs.length = 0
  · rw [rootL, if_pos h0]; exact sumL_length _
  by_cases h1 : hs.length = 1
  · rw [rootL_one hs h1]
    exact h.at_ (i := 0) (by omega)
  · rw [rootL_more hs (by omega)]; exact node_length _ _
theorem all32_append {a b : List (List UInt8)} (h1 : all32 a) (h2 : all32 b) : all32 (a ++ b) := fun l hl => by
  rcases List.mem_append.1 hl with h | h
  · exact h1 l h
  · exact h2 l h
theorem all32_one {r : List UInt8} (h : r.length = 32) : all32 [r] := fun l hl => by
  simp at hl; subst hl; exact h
theorem all32_nil : all32 [] := fun l hl => by cases hl
theorem all32.few {ls : List (List UInt8)} (h : all32 ls) : few ls := fun l hl => by rw [h l hl]; omega
theorem path_all32 (n : Nat) : ∀ (hs : List (List UInt8)) (i : Nat), hs.length = n → all32 hs → all32 (pathL hs i) := by
  induction n using Nat.strongRecOn with
  | ind n ih =>
  intro hs i hn h
  rw [pathL]
  by_cases h1 : hs.length ≤ 1
  · rw [if_pos h1]; exact all32_nil
  · have hl := half_lt (n := hs.length) (by omega)
    have hp := half_pos hs.length
    rw [if_neg h1]
    split
    · exact all32_append (ih (halfN hs.length) (by omega) _ _ (by simp; omega) (h.take _)) (all32_one (rootL_len _ (h.drop _)))
    · exact all32_append (ih (hs.length - halfN hs.length) (by omega) _ _ (by simp) (h.drop _)) (all32_one (rootL_len _ (h.take _)))
theorem proof_all32 (n : Nat) : ∀ (hs : List (List UInt8)) (m : Nat) (b : Bool), hs.length = n → all32 hs → all32 (proofL hs m b) := by
  induction n using Nat.strongRecOn with
  | ind n ih =>
  intro hs m b hn h
  rw [proofL]
  by_cases h1 : hs.length ≤ 1 ∨ m = hs.length
  · rw [if_pos h1]
    cases b with
    | true => exact all32_nil
    | false => exact all32_one (rootL_len _ h)
  · have hl := half_lt (n := hs.length) (by omega)
    have hp := half_pos hs.length
    rw [if_neg h1]
    split
    · exact all32_append (ih (halfN hs.length) (by omega) _ _ _ (by simp; omega) (h.take _)) (all32_one (rootL_len _ (h.drop _)))
    · exact all32_append (ih (hs.length - halfN hs.length) (by omega) _ _ _ (by simp) (h.drop _)) (all32_one (rootL_len _ (h.take _)))
theorem getD_leaf (L : List (List UInt8)) (z : Nat) (hz : z < L.length) : (L.map leafL).getD z [] = leafL (listAt L z) := by
  simp [listAt, List.getD, hz]
theorem climbO_path (L : List (List UInt8)) (z N : Nat) (hN : L.length = N) (hz : z < N) : climbO N z (listAt L z) (pathL (L.map leafL) z) = some (rootL (L.map leafL)) := by
  have := climb_path (L.map leafL) z [] (by rw [List.length_map]; omega)
  rw [List.append_nil, List.length_map, hN, getD_leaf L z (by omega)] at this
  unfold climbO
  rw [this]
theorem check_path (L : List (List UInt8)) (z N : Nat) (hN : L.length = N) (hz : z < N) : checkB N z (listAt L z) (pathL (L.map leafL) z) (rootL (L.map leafL)) = true := by
  unfold checkB
  rw [climbO_path L z N hN hz]
  simp
end Go.Proofs.Ytahphlcahaheiaa
