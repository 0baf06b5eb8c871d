/- A struct stored whole: one setCell a field, told at once. -/
import Derived.Test.YtfkckokaclkjnaaBlk
namespace Go.Proofs.Ytfkckokaclkjnaa
open Go.RowKit

def stores (w : World) (g : Nat) : List Value → Nat → World
  | [], _ => w
  | v :: vs, k => stores (w.setCell ⟨g, k, none⟩ v) g vs (k + 1)
theorem stores_at (g t : Nat) : ∀ (vs cs pre : List Value) (w : World) (k : Nat), Blk w g t (pre ++ cs).toArray → vs.length = cs.length → pre.length = k → Blk (stores w g vs k) g t (pre ++ vs).toArray
  | [], cs, pre, w, k, h, hl, _ => by
    have : cs = [] := List.eq_nil_of_length_eq_zero (by simpa using hl.symm)
    subst this; exact h
  | v :: vs, [], pre, w, k, h, hl, _ => by simp at hl
  | v :: vs, c :: cs, pre, w, k, h, hl, hk => by
    have h2 := h.put k v
    have e : (pre ++ c :: cs).toArray.setIfInBounds k v = ((pre ++ [v]) ++ cs).toArray := by
      subst hk
      simp
    rw [e] at h2
    have h3 := stores_at g t vs cs (pre ++ [v]) _ (k + 1) h2 (by simpa using hl) (by simp [hk])
    rw [List.append_assoc] at h3
    exact h3
theorem Blk.filled {w : World} {g t : Nat} {cs : Array Value} (h : Blk w g t cs) (vs : List Value) (hl : vs.length = cs.size) : Blk (stores w g vs 0) g t vs.toArray := by
  have h' : Blk w g t (([] : List Value) ++ cs.toList).toArray := by simpa using h
  exact stores_at g t vs cs.toList [] w 0 h' (by simpa using hl) rfl
theorem Blk.beside {g g' t : Nat} {cs : Array Value} (hne : g' ≠ g) : ∀ (vs : List Value) (w : World) (k : Nat), Blk w g' t cs → Blk (stores w g vs k) g' t cs
  | [], _, _, h => h
  | v :: vs, w, k, h => Blk.beside hne vs _ (k + 1) (h.far (p := ⟨g, k, none⟩) hne v)
theorem Below.stores {B g : Nat} {w0 : World} (hg : B ≤ g) : ∀ (vs : List Value) (w : World) (k : Nat), Below B w0 w → Below B w0 (stores w g vs k)
  | [], _, _, h => h
  | v :: vs, w, k, h => Below.stores hg vs _ (k + 1) (h.setCell (p := ⟨g, k, none⟩) hg v)
theorem Blk.drew {w : World} {g t : Nat} {cs : Array Value} (h : Blk w g t cs) : Blk w.drew g t cs := h.same rfl
theorem Blk.two1 {w : World} {g g' t : Nat} {cs : Array Value} (h : Blk w g t cs) (vs us : List Value) (hl : vs.length = cs.size) (hne : g ≠ g') : Blk (stores (stores w g vs 0) g' us 0).drew g t vs.toArray := (Blk.beside hne us _ 0 (h.filled vs hl)).drew
theorem Blk.two2 {w : World} {g g' t : Nat} {cs : Array Value} (h : Blk w g t cs) (vs us : List Value) (hl : us.length = cs.size) (hne : g ≠ g') : Blk (stores (stores w g' vs 0) g us 0).drew g t us.toArray := ((Blk.beside hne vs _ 0 h).filled us hl).drew
end Go.Proofs.Ytfkckokaclkjnaa
