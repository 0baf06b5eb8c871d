/- Cuts of byte slices under one name: no question whether the cut begins at the capacity. -/
import Derived.Test.YtahphlcahaheiaaBase
namespace Go.Proofs.Ytahphlcahaheiaa
open Go.RowKit

/-- Where a cut that begins at lo lies. -/
def cutA (A : Option Addr) (c lo : Nat) : Option Addr := if c = lo then A else A.map (·.add lo)
theorem Bytes.cutS {w : World} {A : Option Addr} {n c : Nat} {l : List UInt8} (h : Bytes w A n c l) (lo hi : Nat) (h1 : lo ≤ hi) (h2 : hi ≤ n) {d k : Nat} (hd : hi - lo = d) (hk : c - lo = k) : Bytes w (cutA A c lo) d k ((l.drop lo).take d) := by
  subst hd hk
  exact h.cut lo hi h1 h2
theorem Bytes.cutTo {w : World} {A : Option Addr} {n c : Nat} {l : List UInt8} (h : Bytes w A n c l) (m : Nat) (hm : m ≤ n) : Bytes w A m c (l.take m) := by
  refine ⟨by have := h.len; simp; omega, Nat.le_trans hm h.le, h.2.2.1, fun i u hu => ?_⟩
  rw [List.map_take, List.getElem?_take] at hu
  split at hu
  · exact h.2.2.2 i u hu
  · cases hu
theorem Bytes.cutFrom {w : World} {A : Option Addr} {n c : Nat} {l : List UInt8} (h : Bytes w A n c l) (lo : Nat) (h1 : lo ≤ n) {d k : Nat} (hd : n - lo = d) (hk : c - lo = k) : Bytes w (cutA A c lo) d k (l.drop lo) := by
  have := h.cutS lo n h1 (Nat.le_refl _) hd hk
  rwa [List.take_of_length_le (by rw [List.length_drop, h.len]; omega)] at this
section
variable {P : Program} {t : TypeId} (ht : P.underlying t = some (.slice (P.elem t))) (hs : ∀ w, (sizeOf (P.elem t)).run P w = .ok 1 w) {A : Option Addr} {n c : Nat}
include ht hs
theorem run_cut (lo hi : Int) (a b d k : Nat) (ha : lo = a) (hb : hi = b) (h1 : a ≤ b) (h2 : b ≤ c) (hd : b - a = d) (hk : c - a = k) (w : World) :
    (Instr.slice t (.slice A n c) (some (.int .i64 lo)) (some (.int .i64 hi)) none).run P w = .ok (.slice (cutA A c a) d k) w := by
  subst ha hb hd hk
  rw [run_slice_lh w t A n c ht .i64 .i64 a b (by omega) (by omega) (by omega), hs]
  simp [Result.andThen, sliced, cutA]
theorem run_cutFrom (lo : Int) (a d k : Nat) (ha : lo = a) (h1 : a ≤ n) (hd : n - a = d) (hk : c - a = k) (w : World) :
    (Instr.slice t (.slice A n c) (some (.int .i64 lo)) none none).run P w = .ok (.slice (cutA A c a) d k) w := by
  subst ha hd hk
  rw [run_slice_l w t A n c ht .i64 a (by omega) (by omega), hs]
  simp [Result.andThen, sliced, cutA]
end
theorem elem_bytes : Try.prog.elem 22 = 5 := by kernel_rfl
theorem und_bytes : Try.prog.underlying 22 = some (.slice (Try.prog.elem 22)) := by kernel_rfl
theorem size_byte (w : World) : (sizeOf (Try.prog.elem 22)).run Try.prog w = .ok 1 w := by kernel_rfl
end Go.Proofs.Ytahphlcahaheiaa
