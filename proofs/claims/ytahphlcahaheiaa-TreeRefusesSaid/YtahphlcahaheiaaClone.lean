/- slices.Clone of bytes -/
import Derived.Test.YtahphlcahaheiaaApp
namespace Go.Proofs.Ytahphlcahaheiaa
open Go.RowKit

set_option maxRecDepth 100000 in
set_option maxHeartbeats 1000000 in
theorem clone_any (A : Option Addr) (n c : Nat) (l : List UInt8) (w : World) (hv : Bytes w A n c l) (hn : n ≤ 1099511627776) :
    Calls Try.prog 64 #[.slice A n c] w fun e w' => ∃ A' c', e = .returned (.slice A' n c') ∧ w'.ownsRow w.heap.size 5 1 (.slice A' n c') n (l.map byteV) ∧ Below w.heap.size w w' := by
  obtain ⟨i0, hi, hz0, hz1, hz2⟩ := info_parts infoByteA
  have hcap := hv.cap
  have hle := hv.le
  cases A with
  | none =>
    have h0 : n = 0 := by
      rcases Nat.eq_zero_or_pos n with h | h
      · exact h
      · obtain ⟨b, off, e, _⟩ := hv.at_ h
        cases e
    subst h0
    have hl : l = [] := List.eq_nil_of_length_eq_zero hv.len
    subst hl
    have hq := fun (W : World) => Lib.run_eql_slice_nil (P := Try.prog) W 22 5 none 0 c 0 0 Try.underlying22
    go_enter Try.func64, Try.ntmps64
    go_wp2
    go_ret
    exact ⟨none, 0, rfl, own_nil _ _ _ _, Below.refl _ _⟩
  | some ad =>
    have HV := Lib.hid hv
    clear hv
    have hq := fun (W : World) => Lib.run_eql_slice_nil (P := Try.prog) W 22 5 (some ad) n c 0 0 Try.underlying22
    go_enter Try.func64, Try.ntmps64
    go_wp2_with (at_builtin; refine wpList_append_rd rfl _ _ 22 rfl i0 (.int .u8 0) 1 Try.underlying22 hi hz0 hz1 hz2 rfl (by decide) rfl (World.ownsRow_lit w #[] 0 (Nat.le_refl _) (by decide) rfl) rfl (HV.out.stays (by go_grown)) (oneCell_bytes _) ?c1 ?c2 ?c3 ?_)
    case c1 => unfold maxLen; omega
    case c2 => omega
    case c3 => simp
    intro A8 c8 w8 hown8 hg8 hb8
    have H8 := Lib.hid hown8
    have hb9 : Below w.heap.size w w8 := ((Below.refl _ _).alloc (Nat.le_refl _) _).trans hb8
    clear hown8
    go_wp2
    go_ret
    exact ⟨A8, c8, rfl, H8.out, hb9⟩

end Go.Proofs.Ytahphlcahaheiaa
