/- Lists of fields (api.Field: Type, Data). -/
import Derived.Test.YtbjmojajhkhekaaApp
namespace Go.Proofs.Ytbjmojajhkhekaa
open Go.RowKit

/-- '.slice A n c' holds the fields fs. -/
def FldL (w : World) (A : Option Addr) (n c : Nat) (fs : List (Int × List UInt8)) : Prop :=
  ∃ vs : List Value, Rd w 2 A n c vs ∧ fs.length = n ∧ ∀ (i : Nat) (f : Int × List UInt8), fs[i]? = some f → ∃ A' n' c', vs[i * 2]? = some (.int .i64 f.1) ∧ vs[i * 2 + 1]? = some (.slice A' n' c') ∧ Bytes w A' n' c' f.2
def fldT (fs : List (Int × List UInt8)) (i : Nat) : Int := (fs.getD i (0, [])).1
def fldD (fs : List (Int × List UInt8)) (i : Nat) : List UInt8 := (fs.getD i (0, [])).2
section
variable {w w' : World} {A : Option Addr} {n c : Nat} {fs : List (Int × List UInt8)}
theorem FldL.stays (h : FldL w A n c fs) (hb : Below w.heap.size w w') : FldL w' A n c fs := by
  obtain ⟨vs, h1, h2, h3⟩ := h
  refine ⟨vs, h1.stays hb, h2, fun i f hf => ?_⟩
  obtain ⟨A', n', c', e1, e2, hy⟩ := h3 i f hf
  exact ⟨A', n', c', e1, e2, hy.stays hb⟩
theorem FldL.len (h : FldL w A n c fs) : fs.length = n := by obtain ⟨vs, _, h2, _⟩ := h; exact h2
theorem FldL.le (h : FldL w A n c fs) : n ≤ c := by obtain ⟨vs, h1, _⟩ := h; exact h1.2.1
theorem FldL.cap (h : FldL w A n c fs) : c ≤ 9223372036854775807 := by
  obtain ⟨vs, h1, _⟩ := h
  have := h1.2.2.1
  unfold maxLen at this; omega
theorem FldL.at_ (h : FldL w A n c fs) {i : Nat} (hi : i < n) : ∃ b off A' n' c', A = some ⟨b, off, none⟩ ∧ w.cell? ⟨b, off + i * 2, none⟩ = some (.int .i64 (fldT fs i)) ∧
    w.cell? ⟨b, off + i * 2 + 1, none⟩ = some (.slice A' n' c') ∧ Bytes w A' n' c' (fldD fs i) := by
  have hl := h.len
  obtain ⟨vs, h1, h2, h3⟩ := h
  have hli : i < fs.length := by omega
  obtain ⟨A', n', c', e1, e2, hy⟩ := h3 i (fs.getD i (0, [])) (by simp [hli, List.getD])
  obtain ⟨b, off, ha, hc⟩ := h1.2.2.2 _ _ e1
  obtain ⟨b', off', ha', hc'⟩ := h1.2.2.2 _ _ e2
  rw [ha] at ha'
  simp only [Option.some.injEq, Addr.mk.injEq, and_true] at ha'
  obtain ⟨rfl, rfl⟩ := ha'
  exact ⟨b, off, A', n', c', ha, hc, by rw [Nat.add_assoc]; exact hc', hy⟩
end
end Go.Proofs.Ytbjmojajhkhekaa
