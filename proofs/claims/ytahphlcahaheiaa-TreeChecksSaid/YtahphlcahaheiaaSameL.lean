/- sectimeref01.SameLists. -/
import Derived.Test.YtahphlcahaheiaaApp
import Derived.Test.YtahphlcahaheiaaSame
import Derived.Test.YtahphlcahaheiaaReg
namespace Go.Proofs.Ytahphlcahaheiaa
open Go.RowKit

theorem refSame_trueL {A : Option Addr} {n c : Nat} {l : List UInt8} {A2 : Option Addr} {n2 c2 : Nat} {l2 : List UInt8} {w : World} (h1 : Bytes w A n c l) (h2 : Bytes w A2 n2 c2 l2) (e0 : l = l2) :
    Calls Try.prog 19 #[.slice A n c, .slice A2 n2 c2] w.drew fun e w' => e = .returned (.bool true) ∧ w' = w.drew :=
  (refSame_true (h1.stays ((Below.refl _ _).drew)) (h2.stays ((Below.refl _ _).drew)) e0).mono fun _ _ h => ⟨h.1, h.2.symm⟩
set_option maxRecDepth 100000 in
set_option maxHeartbeats 4000000 in
theorem sameLists_true (A : Option Addr) (n c : Nat) (ls : List (List UInt8)) (A2 : Option Addr) (c2 : Nat) (w : World) (h1 : Lists w A n c ls) (h2 : Lists w A2 n c2 ls) :
    Calls Try.prog 34 #[.slice A n c, .slice A2 n c2] w fun e w' => e = .returned (.bool true) ∧ Below w.heap.size w w' := by
  have q1 := h1.le
  have q2 := h1.cap
  have q3 := h2.le
  have q4 := h2.cap
  have F1 := Lib.hid h1
  have F2 := Lib.hid h2
  clear h1 h2
  go_enter Try.func34, Try.ntmps34
  go_wp2
  go_loopw [5] (fun i wr => ∃ k : Nat, k ≤ n ∧ i = .int .i64 k ∧ Below w.heap.size w wr) (fun i _ => n - (intOf i).toNat)
  case atStart => exact ⟨0, Nat.zero_le _, rfl, Below.refl _ _⟩
  case round =>
    obtain ⟨k, hk, rfl, hbr⟩ := hrel
    by_cases hkn : k < n
    · have hki : (k : Int) < (n : Int) := by omega
      obtain ⟨b, off, A', n', c', rfl, hc0, hy⟩ := (F1.out.stays hbr).at_ hkn
      obtain ⟨b2, off2, A2', n2', c2', rfl, hc02, hy2⟩ := (F2.out.stays hbr).at_ hkn
      have HY := Lib.hid hy
      have HY2 := Lib.hid hy2
      clear hy hy2
      go_wp2_with fail
      refine region_still (by kernel_rfl) (by kernel_rfl) ?_
      repeat ((with_reducible refine wpStill_step (fun K hK => ?_)); go_simp; (with_reducible refine hK _ ?_); clear hK K)
      with_reducible refine wpStill_step (fun K hK => ?_)
      go_simp
      with_reducible refine ⟨_, refSame_trueL HY.out HY2.out rfl, hK _ ?_⟩
      clear hK K
      repeat ((with_reducible refine wpStill_step (fun K hK => ?_)); go_simp; (with_reducible refine hK _ ?_); clear hK K)
      refine wpStill_nil ?_
      go_wp2
      go_roundw
      case rel => exact ⟨k + 1, by omega, by go_num, hbr.drew⟩
      case measure => simp [intOf]; omega
    · obtain rfl : k = n := by omega
      go_wp2
      go_ret
      exact ⟨rfl, hbr⟩
end Go.Proofs.Ytahphlcahaheiaa
