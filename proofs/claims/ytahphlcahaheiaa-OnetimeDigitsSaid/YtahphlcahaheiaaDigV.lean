/- OnetimeDigits at bytes of other lengths. -/
import Derived.Test.YtahphlcahaheiaaDigK
namespace Go.Proofs.Ytahphlcahaheiaa
open Go.RowKit

set_option maxRecDepth 100000 in
set_option maxHeartbeats 8000000 in
theorem oneDigits_bad (A1 : Option Addr) (n1 c1 : Nat) (l1 : List UInt8) (A2 : Option Addr) (n2 c2 : Nat) (l2 : List UInt8) (w : World) (h1 : Bytes w A1 n1 c1 l1) (h2 : Bytes w A2 n2 c2 l2) (hz : c1 ≤ 140737488351232) (hn : ¬ (n1 = 16 ∧ n2 = 16)) :
    Calls Try.prog 3 #[.slice A1 n1 c1, .slice A2 n2 c2] w fun e w' => e = .returned (.bool true) ∧ Below w.heap.size w w' := by
  have hle1 := h1.le
  have hle2 := h2.le
  have hcap1 := h1.cap
  have hcap2 := h2.cap
  have bad : ¬ (n1 : Int) = 16 ∨ (n1 : Int) = 16 ∧ ¬ (n2 : Int) = 16 := by omega
  obtain ⟨wm, g, z, hmk, hbm, hzr⟩ : ∃ wm g z, (Instr.makeSlice 22 (.int .i64 17) (.int .i64 17)).run Try.prog w = .ok (.slice (some ⟨g, 0, none⟩) 17 17) wm ∧ Below w.heap.size w wm ∧ Bytes wm (some ⟨g, 0, none⟩) 17 17 z :=
    ⟨_, _, _, make_bytes 17 (by omega) w, by go_grown, zeros_read w 17 (by omega)⟩
  have hsm := hbm.size
  have hT : [l1, z].flatten.length = n1 + 17 := by simp [h1.len, hzr.len]
  have cj := Lib.hid (refJoin_any _ 2 2 _ _ (lists_made2 (E := 22) (h1.stays hbm) hzr) (n1 + 17) hT (by omega))
  clear hzr
  clear hn h1 h2 hT
  rcases bad with bad | ⟨hb1, bad⟩
  all_goals
    go_enter Try.func3, Try.ntmps3
    go_wp2_with fail
    refine cj.out.mono ?_
    rintro e w1 ⟨A', c', rfl, -, hb1⟩
    have hB1 : Below w.heap.size w w1 := below_via (by go_grown) hb1 (by simp; omega)
    have hs1 := hB1.size
    clear hb1 cj
    go_wp2_with fail
    refine (digits_err _ _ _ _ (by omega)).mono ?_
    rintro e w2 ⟨rfl, rfl⟩
    go_wp2_with fail
    refine (oneKnown _).mono ?_
    rintro e w3 ⟨rfl, hb3⟩
    go_wp2
    go_ret
    exact ⟨rfl, hB1.trans (hb3.mono hs1)⟩

end Go.Proofs.Ytahphlcahaheiaa
