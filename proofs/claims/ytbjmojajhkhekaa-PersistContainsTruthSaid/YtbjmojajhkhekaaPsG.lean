/- States that the tape makes; Load as a function of the bytes. -/
import Derived.Test.YtbjmojajhkhekaaPsE
import Derived.Test.YtbjmojajhkhekaaTape
namespace Go.Proofs.Ytbjmojajhkhekaa
open Go.RowKit

/-- What Load gives: the numbers, and the error. -/
def loadR (l : List UInt8) : List Int × Int :=
  if l.length < 80 then ([0, 0, 0, 0, 0, 0, 0], 1) else if 80 < l.length then ([0, 0, 0, 0, 0, 0, 0], 2) else if ¬ l.take 8 = magicL then ([0, 0, 0, 0, 0, 0, 0], 3)
  else if ¬ shortL (l.take 64) = l.drop 64 then ([0, 0, 0, 0, 0, 0, 0], 6) else if svE (loadN l 1) (loadN l 2) (loadN l 3) (loadN l 4) (loadN l 5) (loadN l 6) (loadN l 7) = 0 then ([loadN l 1, loadN l 2, loadN l 3, loadN l 4, loadN l 5, loadN l 6, loadN l 7], 0) else ([0, 0, 0, 0, 0, 0, 0], svE (loadN l 1) (loadN l 2) (loadN l 3) (loadN l 4) (loadN l 5) (loadN l 6) (loadN l 7))
def lvN (l : List UInt8) (i : Nat) : Int := (loadR l).1.getD i 0
def lvE (l : List UInt8) : Int := (loadR l).2
theorem loadR_bad (l : List UInt8) (h : ¬ lvE l = 0) : (loadR l).1 = [0, 0, 0, 0, 0, 0, 0] := by
  unfold lvE at h
  unfold loadR at h ⊢
  split
  · rfl
  · split
    · rfl
    · split
      · rfl
      · split
        · rfl
        · split
          · rename_i h1 h2 h3 h4 h5
            rw [if_neg h1, if_neg h2, if_neg h3, if_neg h4, if_pos h5] at h
            exact absurd rfl h
          · rfl
theorem lvN_bad (l : List UInt8) (h : ¬ lvE l = 0) (i : Nat) (hi : i < 7) : lvN l i = 0 := by
  unfold lvN
  rw [loadR_bad l h]
  match i, hi with
  | 0, _ => rfl
  | 1, _ => rfl
  | 2, _ => rfl
  | 3, _ => rfl
  | 4, _ => rfl
  | 5, _ => rfl
  | 6, _ => rfl
theorem load_any (A : Option Addr) (n c : Nat) (l : List UInt8) (w : World) (hv : Bytes w A n c l) :
    Calls Try.prog 23 #[.slice A n c] w fun e w' => e = .returned (.tuple #[.agg #[.int .i64 (lvN l 0), .int .i64 (lvN l 1), .int .i64 (lvN l 2), .int .i64 (lvN l 3), .int .i64 (lvN l 4), .int .i64 (lvN l 5), .int .i64 (lvN l 6)], .int .i64 (lvE l)]) ∧ Below w.heap.size w w' := by
  have hl := hv.len
  unfold lvN lvE
  by_cases h1 : l.length < 80
  · rw [show loadR l = ([0, 0, 0, 0, 0, 0, 0], 1) from if_pos h1]
    exact load_short A n c l w hv (by omega)
  · by_cases h2 : 80 < l.length
    · rw [show loadR l = ([0, 0, 0, 0, 0, 0, 0], 2) from (if_neg h1).trans (if_pos h2)]
      exact load_long A n c l w hv (by omega)
    · have hn : n = 80 := by omega
      by_cases h3 : l.take 8 = magicL
      · by_cases h4 : shortL (l.take 64) = l.drop 64
        · by_cases h5 : svE (loadN l 1) (loadN l 2) (loadN l 3) (loadN l 4) (loadN l 5) (loadN l 6) (loadN l 7) = 0
          · rw [show loadR l = ([loadN l 1, loadN l 2, loadN l 3, loadN l 4, loadN l 5, loadN l 6, loadN l 7], 0) from (if_neg h1).trans ((if_neg h2).trans ((if_neg (fun h => h h3)).trans ((if_neg (fun h => h h4)).trans (if_pos h5))))]
            exact load_ok A n c l w hv hn h3 h4 h5
          · rw [show loadR l = ([0, 0, 0, 0, 0, 0, 0], svE (loadN l 1) (loadN l 2) (loadN l 3) (loadN l 4) (loadN l 5) (loadN l 6) (loadN l 7)) from (if_neg h1).trans ((if_neg h2).trans ((if_neg (fun h => h h3)).trans ((if_neg (fun h => h h4)).trans (if_neg h5))))]
            exact load_bad A n c l w hv hn h3 h4 h5
        · rw [show loadR l = ([0, 0, 0, 0, 0, 0, 0], 6) from (if_neg h1).trans ((if_neg h2).trans ((if_neg (fun h => h h3)).trans (if_pos h4)))]
          exact load_auth A n c l w hv hn h3 h4
      · rw [show loadR l = ([0, 0, 0, 0, 0, 0, 0], 3) from (if_neg h1).trans ((if_neg h2).trans (if_pos h3))]
        exact load_form A n c l w hv hn h3
theorem refLoad_any (A : Option Addr) (n c : Nat) (l : List UInt8) (w : World) (hv : Bytes w A n c l) :
    Calls Try.prog 32 #[.slice A n c] w fun e w' => e = .returned (.tuple #[.agg #[.int .i64 (lvN l 0), .int .i64 (lvN l 1), .int .i64 (lvN l 2), .int .i64 (lvN l 3), .int .i64 (lvN l 4), .int .i64 (lvN l 5), .int .i64 (lvN l 6)], .int .i64 (lvE l)]) ∧ Below w.heap.size w w' := by
  have hl := hv.len
  unfold lvN lvE
  by_cases h1 : l.length < 80
  · rw [show loadR l = ([0, 0, 0, 0, 0, 0, 0], 1) from if_pos h1]
    exact refLoad_short A n c l w hv (by omega)
  · by_cases h2 : 80 < l.length
    · rw [show loadR l = ([0, 0, 0, 0, 0, 0, 0], 2) from (if_neg h1).trans (if_pos h2)]
      exact refLoad_long A n c l w hv (by omega)
    · have hn : n = 80 := by omega
      by_cases h3 : l.take 8 = magicL
      · by_cases h4 : shortL (l.take 64) = l.drop 64
        · by_cases h5 : svE (loadN l 1) (loadN l 2) (loadN l 3) (loadN l 4) (loadN l 5) (loadN l 6) (loadN l 7) = 0
          · rw [show loadR l = ([loadN l 1, loadN l 2, loadN l 3, loadN l 4, loadN l 5, loadN l 6, loadN l 7], 0) from (if_neg h1).trans ((if_neg h2).trans ((if_neg (fun h => h h3)).trans ((if_neg (fun h => h h4)).trans (if_pos h5))))]
            exact refLoad_ok A n c l w hv hn h3 h4 h5
          · rw [show loadR l = ([0, 0, 0, 0, 0, 0, 0], svE (loadN l 1) (loadN l 2) (loadN l 3) (loadN l 4) (loadN l 5) (loadN l 6) (loadN l 7)) from (if_neg h1).trans ((if_neg h2).trans ((if_neg (fun h => h h3)).trans ((if_neg (fun h => h h4)).trans (if_neg h5))))]
            exact refLoad_bad A n c l w hv hn h3 h4 h5
        · rw [show loadR l = ([0, 0, 0, 0, 0, 0, 0], 6) from (if_neg h1).trans ((if_neg h2).trans ((if_neg (fun h => h h3)).trans (if_pos h4)))]
          exact refLoad_auth A n c l w hv hn h3 h4
      · rw [show loadR l = ([0, 0, 0, 0, 0, 0, 0], 3) from (if_neg h1).trans ((if_neg h2).trans (if_pos h3))]
        exact refLoad_form A n c l w hv hn h3
theorem only_trans {b : Nat} {w w1 w2 : World} (_hb : b < w.heap.size) (h : Only b w w1) (k : Only b w1 w2) : Only b w w2 := h.trans k
theorem range_any (B b : Nat) (l : List Int) (k : Nat) (lo hi : Int) (m : Int) (hm : hi - lo + 1 = m) (h1 : 1 ≤ m) (h2 : m ≤ 1000000) (h3 : -1000000 ≤ lo) (h4 : lo ≤ 1000000) (w : World) (h : Tape B w b l k) :
    Calls Try.prog 42 #[.pointer (some ⟨b, 0, none⟩), .int .i64 lo, .int .i64 hi] w fun e w' => ∃ (x : Int) (k' : Nat), e = .returned (.int .i64 x) ∧ lo ≤ x ∧ x ≤ hi ∧ Tape B w' b l k' ∧ Only b w w' := by
  have H := Lib.hid h
  clear h
  have hd : hi - lo = m - 1 := by omega
  go_enter Try.func42, Try.ntmps42
  go_wp2_with fail
  refine (int_any B b l k m (by omega) (by omega) _ H.out).mono ?_
  rintro e w1 ⟨k1, rfl, ht, ho⟩
  have e0 := Int.emod_nonneg (tapeAt l k) (show m ≠ 0 by omega)
  have e1 := Int.emod_lt_of_pos (tapeAt l k) (show 0 < m by omega)
  have HT := Lib.hid ht
  have HO := Lib.hid ho
  clear ht ho
  generalize tapeAt l k % m = y at *
  go_wp2
  go_ret
  exact ⟨_, k1, rfl, by omega, by omega, HT.out, HO.out⟩
end Go.Proofs.Ytbjmojajhkhekaa
