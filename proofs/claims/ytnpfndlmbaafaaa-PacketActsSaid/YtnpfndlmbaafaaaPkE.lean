/- PacketAnswers: the sanity check and the law. -/
import Derived.Test.YtnpfndlmbaafaaaPkD
import Derived.Test.YtnpfndlmbaafaaaGet
namespace Go.Proofs.Ytnpfndlmbaafaaa
open Go.RowKit

theorem knownBytes : hdBytes 0 4 3 0 6 0 0 0 0 0 0 0 1 = [0x23, 0, 6, 0, 0,0,0,0, 0,0,0,0, 0,0,0,0, 0,0,0,0,0,0,0,0, 0,0,0,0,0,0,0,0, 0,0,0,0,0,0,0,0, 0,0,0,0,0,0,0,1] := by decide +kernel
set_option maxRecDepth 100000 in
set_option maxHeartbeats 2000000 in
theorem pkKnown (w : World) : Calls Try.prog 17 #[] w fun e w' => e = .returned (.bool true) ∧ Below w.heap.size w w' := by
  go_enter Try.func17, Try.ntmps17
  go_wp2_with fail
  refine (ask_any 1 _).mono ?_
  rintro e w1 ⟨rfl, hb1⟩
  have hs1 := hb1.size
  go_wp2_with fail
  refine (encode_ok 0 4 3 0 6 0 0 0 0 0 0 0 1 _ (by decide) (by decide) (by decide) (by decide) (by decide) (by decide) (by decide) (by decide)).mono ?_
  rintro e w2 ⟨A, c, rfl, hr, hb2⟩
  have hB := hb1.trans (hb2.mono hs1)
  rw [knownBytes] at hr
  have hle := hr.le
  have hcap := hr.cap
  obtain ⟨b, off, rfl, h0⟩ := hr.at_ (i := 0) (by omega)
  obtain ⟨b', off', e', h2⟩ := hr.at_ (i := 2) (by omega)
  simp only [Option.some.injEq, Addr.mk.injEq, and_true] at e'
  obtain ⟨rfl, rfl⟩ := e'
  have hcut := hr.cut 40 48 (by omega) (by omega)
  rw [if_neg (by omega)] at hcut
  have hc := Lib.hid hcut
  clear hcut hr hb1 hb2
  simp [byteAt] at h0 h2
  go_wp2_with fail
  refine (get_any _ _ _ _ _ hc.out).mono ?_
  rintro e w3 ⟨rfl, rfl⟩
  rw [show be64 (List.take (48 - 40) (List.drop 40 [0x23, 0, 6, 0, 0,0,0,0, 0,0,0,0, 0,0,0,0, 0,0,0,0,0,0,0,0, 0,0,0,0,0,0,0,0, 0,0,0,0,0,0,0,0, 0,0,0,0,0,0,0,1])) (48 - 40) = 1 by decide +kernel]
  go_wp2
  go_ret
  exact ⟨rfl, hB⟩

end Go.Proofs.Ytnpfndlmbaafaaa
