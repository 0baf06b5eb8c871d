/- Extension fields: plain laws for the statements that read back, join and find. -/
import Derived.Test.YtofadjcphaehcaaExtJ
namespace Go.Proofs.Ytofadjcphaehcaa
open Go.RowKit

theorem totX_le : ∀ fs : List (Int × List UInt8), (∀ f ∈ fs, exSz f.2.length ≤ 64) → totX fs ≤ 64 * fs.length
  | [], _ => by simp [totX]
  | f :: fs, h => by
    have h1 := h f (by simp)
    have h2 := totX_le fs fun g hg => h g (by simp [hg])
    rw [totX, List.length_cons]; omega
theorem totX_mod : ∀ fs : List (Int × List UInt8), totX fs % 4 = 0
  | [] => rfl
  | f :: fs => by
    have h1 := totX_mod fs
    have h2 := exSz_ge f.2.length
    rw [totX]; omega
/-- Fields that are few and short. -/
def okX (fs : List (Int × List UInt8)) : Prop := ∀ f ∈ fs, 0 ≤ f.1 ∧ f.1 ≤ 65535 ∧ exSz f.2.length ≤ 64
theorem okX_W (l : List (Int × List UInt8)) : okX (fieldsW l) := fun f hf => by
  have := fieldsW_ok l f hf
  exact ⟨this.1, this.2.1, this.2.2.2⟩
theorem okX.app {a b : List (Int × List UInt8)} (h1 : okX a) (h2 : okX b) : okX (a ++ b) := fun f hf => by
  rcases List.mem_append.1 hf with h | h
  · exact h1 f h
  · exact h2 f h
theorem okX.wide {fs : List (Int × List UInt8)} (h : okX fs) : ∀ f ∈ fs, 0 ≤ f.1 ∧ f.1 ≤ 65535 ∧ exSz f.2.length ≤ 1232 := fun f hf => by
  have := h f hf
  exact ⟨this.1, this.2.1, by omega⟩
theorem okX.tot {fs : List (Int × List UInt8)} (h : okX fs) (hn : fs.length ≤ 8) : totX fs ≤ 512 := by
  have := totX_le fs fun f hf => (h f hf).2.2
  omega
theorem okX.enc {fs : List (Int × List UInt8)} (h : okX fs) (hn : fs.length ≤ 8) : encodeX fs = (fs.flatMap encX, 0) :=
  encodeX_ok (errX_all _ h.wide) (by omega) (by have := h.tot hn; omega)
theorem okX.read {fs : List (Int × List UInt8)} (h : okX fs) (hn : fs.length ≤ 8) : readX (fs.flatMap encX) = (0, placesX 0 fs) :=
  readX_enc h.wide (by omega) (by have := h.tot hn; omega)
theorem okX.dec {fs : List (Int × List UInt8)} (h : okX fs) (hn : fs.length ≤ 8) : decL (readX (fs.flatMap encX)) = fs.map padX := by
  rw [h.read hn, decL, if_pos rfl, flX, placesX_map]
theorem okX.plc {fs : List (Int × List UInt8)} (h : okX fs) (hn : fs.length ≤ 8) : plcL (readX (fs.flatMap encX)) = (placesX 0 fs).map Prod.fst := by
  rw [h.read hn, plcL, if_pos rfl, plX]
theorem okX.len {fs : List (Int × List UInt8)} (_ : okX fs) : (fs.flatMap encX).length = totX fs := totX_flat fs
theorem fld_mem (fs : List (Int × List UInt8)) (k : Nat) (h : k < fs.length) : (fldT fs k, fldD fs k) ∈ fs := by
  have : (fldT fs k, fldD fs k) = fs[k] := by simp [fldT, fldD, List.getD, h]
  rw [this]; exact List.getElem_mem h
theorem okX.size {fs : List (Int × List UInt8)} (h : okX fs) (k : Nat) (hk : k < fs.length) : sizeX (fldT fs k, fldD fs k) = (exSz (fldD fs k).length, 0) := by
  have := h _ (fld_mem fs k hk)
  exact sizeX_of this.1 this.2.1 (by have := this.2.2; simp only [] at this; omega)
theorem totX_take (fs : List (Int × List UInt8)) (k : Nat) (h : k < fs.length) : totX (fs.take (k + 1)) = totX (fs.take k) + exSz (fldD fs k).length := by
  rw [take_fld fs k h, totX_append]; simp [totX]
theorem findX_pre (fs : List (Int × List UInt8)) (kd : Int) (k : Nat) : ∀ m, k ≤ m → ∃ r, findX fs kd m = findX fs kd k ++ r := by
  intro m hm
  induction m with
  | zero => obtain rfl : k = 0 := by omega
            exact ⟨[], by simp⟩
  | succ m ih =>
    rcases Nat.lt_or_ge m k with h | h
    · obtain rfl : k = m + 1 := by omega
      exact ⟨[], by simp⟩
    · obtain ⟨r, hr⟩ := ih h
      by_cases he : fldT fs m = kd
      · exact ⟨r ++ [m], by rw [findX_yes he, hr, List.append_assoc]⟩
      · exact ⟨r, by rw [findX_no he, hr]⟩
/-- The next place that is found. -/
theorem findX_at {fs : List (Int × List UInt8)} {kd : Int} {k m : Nat} (hk : k < m) (he : fldT fs k = kd) : (findX fs kd m)[(findX fs kd k).length]? = some k ∧ (findX fs kd k).length < (findX fs kd m).length := by
  obtain ⟨r, hr⟩ := findX_pre fs kd (k + 1) m hk
  rw [findX_yes he] at hr
  rw [hr, List.append_assoc]
  simp
/-- Back again: what was read is written as it was. -/
theorem readX_back {b : List UInt8} (h : (readX b).1 = 0) : encodeX (decL (readX b)) = (b, 0) := by
  have hl : b.length ≤ 1232 := by
    unfold readX at h
    by_cases h1 : 1232 < b.length
    · rw [if_pos h1] at h; cases h
    · omega
  have e : readX b = wkX b.length 0 0 b := by rw [readX, if_neg (by omega)]
  rw [decL, if_pos h, flX]
  rw [e] at h ⊢
  obtain ⟨h1, h2, h3⟩ := wkX_back b.length 0 0 b (Nat.le_refl _) (by omega) h
  have hf : ∀ f ∈ (wkX b.length 0 0 b).2.map Prod.snd, 0 ≤ f.1 ∧ f.1 ≤ 65535 ∧ exSz f.2.length ≤ 1232 := by
    intro f hf
    obtain ⟨a1, a2, a3⟩ := h3 f hf
    refine ⟨a1, a2, ?_⟩
    have : (encX f).length ≤ b.length := by
      rw [← h1]
      obtain ⟨s, t, hst⟩ := List.append_of_mem hf
      rw [hst, List.flatMap_append, List.flatMap_cons]
      simp only [List.length_append]; omega
    rw [encX_length] at this; omega
  rw [encodeX_ok (errX_all _ hf) (by simpa using h2) (by rw [← totX_flat, h1]; exact hl), h1]
end Go.Proofs.Ytofadjcphaehcaa
