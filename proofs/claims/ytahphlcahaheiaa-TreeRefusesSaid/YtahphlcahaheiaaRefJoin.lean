/- sectimeref01.Join -/
import Derived.Test.YtahphlcahaheiaaApp
namespace Go.Proofs.Ytahphlcahaheiaa
open Go.RowKit

set_option maxRecDepth 100000 in
set_option maxHeartbeats 2000000 in
theorem refJoin_any (A : Option Addr) (n c : Nat) (ls : List (List UInt8)) (w : World) (hv : Lists w A n c ls) (T : Nat) (hT : ls.flatten.length = T) (ht : T ≤ 140737488355328) :
    Calls Try.prog 17 #[.slice A n c] w fun e w' => ∃ A' c', e = .returned (.slice A' T c') ∧
      w'.ownsRow w.heap.size 5 1 (.slice A' T c') T (ls.flatten.map byteV) ∧ Below w.heap.size w w' := by
  obtain ⟨i0, hi, hz0, hz1, hz2⟩ := info_parts infoByteA
  have hcap := hv.cap
  have hle := hv.le
  have HL := Lib.hid hv.len
  have HV := Lib.hid hv
  have HT := Lib.hid hT
  have hsum : ∀ j, (ls.take j).flatten.length ≤ T := fun j => by rw [← hT]; exact flatten_take_le ls j
  have HS := Lib.hid hsum
  clear hv hsum hT
  go_enter Try.func17, Try.ntmps17
  go_wp2
  go_loopw [3, 4] (fun s i wr => ∃ (k m cc : Nat) (AA : Option Addr), k ≤ n ∧ i = .int .i64 k ∧ s = .slice AA m cc ∧ Hid (m = (ls.take k).flatten.length) ∧
      wr.ownsRow w.heap.size 5 1 (.slice AA m cc) m ((ls.take k).flatten.map byteV) ∧ Below w.heap.size w wr) (fun _ i _ => n - (intOf i).toNat)
  case atStart => exact ⟨0, 0, _, _, Nat.zero_le _, rfl, rfl, by simp [Hid], World.ownsRow_lit w _ _ (Nat.le_refl _) (by decide) rfl, by go_grown⟩
  case round =>
    obtain ⟨k, m, cc, AA, hk, rfl, rfl, hm, hownr, hbr⟩ := hrel
    by_cases hkj : k < n
    · obtain ⟨b, off, A', n', c', rfl, hc, hy⟩ := (HV.out.stays hbr).at_ hkj
      have HE2 : Hid (m + n' = (ls.take (k + 1)).flatten.length) := by
        unfold Hid
        rw [take_flatten ls k (by rw [HL.out]; exact hkj), List.length_append, hy.len, ← hm.out]
      have hmn : m + n' ≤ T := by rw [HE2.out]; exact HS.out _
      have HO := Lib.hid hownr
      have HY := Lib.hid hy
      have hsz := hbr.size
      clear hownr hy
      go_wp2_with (at_builtin; refine wpList_append_rd rfl _ _ 22 rfl i0 (.int .u8 0) 1 Try.underlying22 hi hz0 hz1 hz2 rfl (by decide) rfl HO.out rfl HY.out (oneCell_bytes _) ?c1 ?c2 ?c3 ?_)
      case c1 => unfold maxLen; omega
      case c2 => omega
      case c3 => exact hsz
      intro A8 c8 w8 hown8 hg8 hb8
      have H8 := Lib.hid hown8
      clear hown8
      go_wp2
      go_roundw
      case rel =>
        refine ⟨k + 1, m + n', _, _, by omega, by go_num, rfl, HE2, ?_, hbr.trans hb8⟩
        rw [take_flatten ls k (by rw [HL.out]; exact hkj), List.map_append]
        simpa [List.map_flatten, List.map_take] using H8.out
      case measure => simp [intOf]; omega
    · obtain rfl : k = n := by omega
      have HE3 : Hid (m = T) := by
        unfold Hid
        rw [hm.out, ← HT.out, List.take_of_length_le (by rw [HL.out]; exact Nat.le_refl _)]
      have HO := Lib.hid hownr
      clear hownr
      go_wp2
      go_ret
      refine ⟨AA, cc, by rw [← HE3.out]; rfl, ?_, hbr⟩
      have := HO.out
      rw [HE3.out, List.take_of_length_le (by rw [HL.out]; exact Nat.le_refl _)] at this
      exact this

end Go.Proofs.Ytahphlcahaheiaa
