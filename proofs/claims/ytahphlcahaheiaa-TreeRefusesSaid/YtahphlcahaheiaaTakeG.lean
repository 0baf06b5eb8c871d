/- A call that makes memory, behind a guard or not, in a region whose order is open. -/
import Derived.Test.YtahphlcahaheiaaTake
namespace Go.Proofs.Ytahphlcahaheiaa
open Go Go.RowKit

section
variable {P : Program} {ops : Array Oper} {Q : Exit → Act → World → Prop} {md : Region.Mode} {S : World → Prop}
/-- A call that makes memory, while nothing else can come up, behind a guard or not. -/
theorem take_makeg {j : Nat} {oj : Oper} {d : Option Tmp} {f : FuncId} {args : Array Value} {R : Value → World → Prop} {fuel : Nat} {listed : Array Bool} {a : Act} {w : World} (hj : ops[j]? = some oj) (hd : oj.dst = d)
    (hr : Region.ready md ops listed = [j]) (hg : Region.wanted oj (yielded ops a.tmps) = true)
    (hc : Calls P f args w fun e w' => ∃ v, e = .returned v ∧ R v w') (hrun : (execOp a.eval oj).run P w = .ok (.enter f args) w)
    (h : ∀ v w2, R v w2 → S w2 ∧ wpAnyH P md ops Q S fuel (listed.setIfInBounds j true) (a.put d v) w2) : wpAnyH P md ops Q S (fuel + 1) listed a w := by
  subst hd
  refine wpAnyH_all hr (by simp) fun k hk => ?_
  obtain rfl : k = j := by simpa using hk
  unfold Go.wpOp
  simp only [hj]
  rw [if_pos hg]
  left
  unfold Oper.wp
  rw [hrun]
  refine Calls.mono hc fun e w2 he => ?_
  obtain ⟨v, rfl, hR⟩ := he
  exact h v w2 hR
end
end Go.Proofs.Ytahphlcahaheiaa
