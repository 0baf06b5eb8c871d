/- kdf.Mac. -/
import Derived.Test.YticknkaohjkjpaaMask
namespace Go.Proofs.Yticknkaohjkjpaa
open Go.RowKit

set_option maxRecDepth 100000 in
set_option maxHeartbeats 8000000 in
theorem mac_any (k b : List UInt8) (A : Option Addr) (n c : Nat) (A2 : Option Addr) (n2 c2 : Nat) (w : World) (hk : Bytes w A n c k) (hb : Bytes w A2 n2 c2 b) (hn2 : n2 ≤ 1000000) :
    Calls Try.prog 21 #[.slice A n c, .slice A2 n2 c2] w fun e w' => ∃ A' c', e = .returned (.slice A' 32 c') ∧ w'.ownsRow w.heap.size 5 1 (.slice A' 32 c') 32 ((macL k b).map byteV) ∧ Below w.heap.size w w' := by
  obtain ⟨i0, hi, hz0, hz1, hz2⟩ := info_parts infoByteA
  have n1 := hk.le
  have n3 := hk.cap
  have n4 := hb.le
  have n5 := hb.cap
  have HL := Lib.hid hk.len
  have KB := Lib.hid hk
  have BB := Lib.hid hb
  clear hk hb
  by_cases hn : 64 < n
  · have hni : (n : Int) > 64 := by omega
    have HM : Hid (macL k b = sumL (maskL (sumL k) (UInt8.ofNat 92) ++ sumL (maskL (sumL k) (UInt8.ofNat 54) ++ b))) := by
      unfold Hid macL shortK
      rw [if_pos (by rw [HL.out]; exact hn)]
      rfl
    go_enter Try.func21, Try.ntmps21
    go_wp2_with fail
    refine (sum_any _ _ _ _ _ KB.out).mono ?_
    rintro e w1 ⟨AK, cK, rfl, hv, hb⟩
    have KB : Hid (Bytes w1 AK 32 cK (sumL k)) := own_rd hv
    have BB := Lib.hid (BB.out.stays hb)
    have R := Lib.hid hb
    have hsR := R.out.size
    clear hv hb
    generalize sumL k = K at *
    go_wp2_with fail
    refine (masked_any 54 (by decide) _ _ _ _ _ KB.out (by omega)).mono ?_
    rintro e wa ⟨Aa, ca, rfl, hv, hb⟩
    have M1 := Lib.hid hv
    have Ra := Lib.hid hb
    have hsa := Ra.out.size
    have BBa := Lib.hid (BB.out.stays hb)
    clear hv hb
    go_wp2_with (at_builtin; refine wpList_append_rd rfl _ _ 22 rfl i0 (.int .u8 0) 1 Try.underlying22 hi hz0 hz1 hz2 rfl (by decide) rfl M1.out rfl BBa.out (oneCell_bytes _) ?c1 ?c2 ?c3 ?_)
    case c1 => unfold maxLen; omega
    case c2 => omega
    case c3 => omega
    intro Ap cp wp hownp hgp hbp
    have P1 := Lib.hid hownp
    have Rp := Lib.hid (Ra.out.trans hbp)
    have hsp := Rp.out.size
    have KB := Lib.hid (KB.out.stays Rp.out)
    have R := Lib.hid (R.out.trans (Rp.out.mono hsR))
    have hsR := R.out.size
    clear hownp hgp hbp M1 BBa Ra hsa Rp BB
    have P2 : Hid (Bytes wp Ap (64 + n2) cp (maskL K (UInt8.ofNat 54) ++ b)) := by
      have := own_rd P1.out
      rw [← List.map_append] at this
      exact this
    clear P1
    go_wp2_with fail
    refine (sum_any _ _ _ _ _ P2.out).mono ?_
    rintro e wq ⟨Aq, cq, rfl, hv, hb⟩
    have I1 : Hid (Bytes wq Aq 32 cq (sumL (maskL K (UInt8.ofNat 54) ++ b))) := own_rd hv
    have KB := Lib.hid (KB.out.stays hb)
    have R := Lib.hid (R.out.trans (hb.mono hsR))
    have hsR := R.out.size
    clear hv hb P2
    go_wp2_with fail
    refine (masked_any 92 (by decide) _ _ _ _ _ KB.out (by omega)).mono ?_
    rintro e wr ⟨Ar, cr, rfl, hv, hb⟩
    have M1 := Lib.hid hv
    have Ra := Lib.hid hb
    have hsa := Ra.out.size
    have I2 := Lib.hid (I1.out.stays hb)
    clear hv hb I1 KB
    go_wp2_with (at_builtin; refine wpList_append_rd rfl _ _ 22 rfl i0 (.int .u8 0) 1 Try.underlying22 hi hz0 hz1 hz2 rfl (by decide) rfl M1.out rfl I2.out (oneCell_bytes _) ?c1 ?c2 ?c3 ?_)
    case c1 => unfold maxLen; omega
    case c2 => omega
    case c3 => omega
    intro As cs ws howns hgs hbs
    have P1 := Lib.hid howns
    have R := Lib.hid (R.out.trans ((Ra.out.trans hbs).mono hsR))
    have hsR := R.out.size
    clear howns hgs hbs M1 I2 Ra hsa
    have P2 : Hid (Bytes ws As (64 + 32) cs (maskL K (UInt8.ofNat 92) ++ sumL (maskL K (UInt8.ofNat 54) ++ b))) := by
      have := own_rd P1.out
      rw [← List.map_append] at this
      exact this
    clear P1
    go_wp2_with fail
    refine (sum_any _ _ _ _ _ P2.out).mono ?_
    rintro e wt ⟨At, ct, rfl, hv, hb⟩
    have HO := Lib.hid (own_more (B' := w.heap.size) hv hsR)
    have R := Lib.hid (R.out.trans (hb.mono hsR))
    clear hv hb P2
    go_wp2
    go_ret
    exact ⟨_, _, rfl, by rw [HM.out]; exact HO.out, R.out⟩
  · have hni : ¬ (n : Int) > 64 := by omega
    have HM : Hid (macL k b = sumL (maskL k (UInt8.ofNat 92) ++ sumL (maskL k (UInt8.ofNat 54) ++ b))) := by
      unfold Hid macL shortK
      rw [if_neg (by rw [HL.out]; exact hn)]
      rfl
    have R : Hid (Below w.heap.size w w) := Below.refl _ _
    have hsR := R.out.size
    obtain ⟨K, rfl⟩ : ∃ x, x = k := ⟨_, rfl⟩
    go_enter Try.func21, Try.ntmps21
    go_wp2_with fail
    refine (masked_any 54 (by decide) _ _ _ _ _ KB.out (by omega)).mono ?_
    rintro e wa ⟨Aa, ca, rfl, hv, hb⟩
    have M1 := Lib.hid hv
    have Ra := Lib.hid hb
    have hsa := Ra.out.size
    have BBa := Lib.hid (BB.out.stays hb)
    clear hv hb
    go_wp2_with (at_builtin; refine wpList_append_rd rfl _ _ 22 rfl i0 (.int .u8 0) 1 Try.underlying22 hi hz0 hz1 hz2 rfl (by decide) rfl M1.out rfl BBa.out (oneCell_bytes _) ?c1 ?c2 ?c3 ?_)
    case c1 => unfold maxLen; omega
    case c2 => omega
    case c3 => omega
    intro Ap cp wp hownp hgp hbp
    have P1 := Lib.hid hownp
    have Rp := Lib.hid (Ra.out.trans hbp)
    have hsp := Rp.out.size
    have KB := Lib.hid (KB.out.stays Rp.out)
    have R := Lib.hid (R.out.trans (Rp.out.mono hsR))
    have hsR := R.out.size
    clear hownp hgp hbp M1 BBa Ra hsa Rp BB
    have P2 : Hid (Bytes wp Ap (64 + n2) cp (maskL K (UInt8.ofNat 54) ++ b)) := by
      have := own_rd P1.out
      rw [← List.map_append] at this
      exact this
    clear P1
    go_wp2_with fail
    refine (sum_any _ _ _ _ _ P2.out).mono ?_
    rintro e wq ⟨Aq, cq, rfl, hv, hb⟩
    have I1 : Hid (Bytes wq Aq 32 cq (sumL (maskL K (UInt8.ofNat 54) ++ b))) := own_rd hv
    have KB := Lib.hid (KB.out.stays hb)
    have R := Lib.hid (R.out.trans (hb.mono hsR))
    have hsR := R.out.size
    clear hv hb P2
    go_wp2_with fail
    refine (masked_any 92 (by decide) _ _ _ _ _ KB.out (by omega)).mono ?_
    rintro e wr ⟨Ar, cr, rfl, hv, hb⟩
    have M1 := Lib.hid hv
    have Ra := Lib.hid hb
    have hsa := Ra.out.size
    have I2 := Lib.hid (I1.out.stays hb)
    clear hv hb I1 KB
    go_wp2_with (at_builtin; refine wpList_append_rd rfl _ _ 22 rfl i0 (.int .u8 0) 1 Try.underlying22 hi hz0 hz1 hz2 rfl (by decide) rfl M1.out rfl I2.out (oneCell_bytes _) ?c1 ?c2 ?c3 ?_)
    case c1 => unfold maxLen; omega
    case c2 => omega
    case c3 => omega
    intro As cs ws howns hgs hbs
    have P1 := Lib.hid howns
    have R := Lib.hid (R.out.trans ((Ra.out.trans hbs).mono hsR))
    have hsR := R.out.size
    clear howns hgs hbs M1 I2 Ra hsa
    have P2 : Hid (Bytes ws As (64 + 32) cs (maskL K (UInt8.ofNat 92) ++ sumL (maskL K (UInt8.ofNat 54) ++ b))) := by
      have := own_rd P1.out
      rw [← List.map_append] at this
      exact this
    clear P1
    go_wp2_with fail
    refine (sum_any _ _ _ _ _ P2.out).mono ?_
    rintro e wt ⟨At, ct, rfl, hv, hb⟩
    have HO := Lib.hid (own_more (B' := w.heap.size) hv hsR)
    have R := Lib.hid (R.out.trans (hb.mono hsR))
    clear hv hb P2
    go_wp2
    go_ret
    exact ⟨_, _, rfl, by rw [HM.out]; exact HO.out, R.out⟩
end Go.Proofs.Yticknkaohjkjpaa
