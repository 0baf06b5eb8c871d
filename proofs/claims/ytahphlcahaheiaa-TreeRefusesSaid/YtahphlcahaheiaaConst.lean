/- hash: first, constants. -/
import Derived.Test.YtahphlcahaheiaaBlkP
import Derived.Test.YtahphlcahaheiaaPut
import Derived.Deep.AppendLies
namespace Go.Proofs.Ytahphlcahaheiaa
open Go.RowKit

theorem Rd.grown {w w' : World} {size : Nat} {A : Option Addr} {n c g : Nat} {xs : List Value} (h : Rd w size A n c xs) (hg : w.grownBy w' (some g)) (hne : ∀ x, A = some x → x.block ≠ g) : Rd w' size A n c xs :=
  ⟨h.1, h.2.1, h.2.2.1, fun i u hu => by
    obtain ⟨b, off, e, hc⟩ := h.2.2.2 i u hu
    refine ⟨b, off, e, ?_⟩
    rw [hg.cell_far _ (World.block_lt_of_cell? w _ hc) (by have := hne _ e; simpa using this)]; exact hc⟩
theorem Bytes.grown {w w' : World} {A : Option Addr} {n c g : Nat} {l : List UInt8} (h : Bytes w A n c l) (hg : w.grownBy w' (some g)) (hne : ∀ x, A = some x → x.block ≠ g) : Bytes w' A n c l := Rd.grown h hg hne

theorem first_any (w : World) : Calls Try.prog 88 #[] w fun e w' => e = .returned (.agg (stA firstS)) ∧ Below w.heap.size w w' := by
  go_enter Try.func88, Try.ntmps88
  go_wp2
  go_returns
  exact ⟨rfl, by go_grown⟩
set_option maxRecDepth 100000 in
set_option maxHeartbeats 4000000 in
theorem const_any (w : World) : Calls Try.prog 98 #[] w fun e w' => ∃ gk, e = .returned (.pointer (some ⟨gk, 0, none⟩)) ∧ w.heap.size ≤ gk ∧ Blk w' gk 103 (kTab.map wV).toArray ∧ Below w.heap.size w w' := by
  go_enter Try.func98, Try.ntmps98
  go_wp2
  go_ret
  exact ⟨_, rfl, Nat.le_refl _, Blk.new _ _ _, by go_grown⟩

end Go.Proofs.Ytahphlcahaheiaa
