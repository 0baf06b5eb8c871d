/- slices.Grow, Concat -/
import Derived.Test.YtahphlcahaheiaaApp
namespace Go.Proofs.Ytahphlcahaheiaa
open Go.RowKit

set_option maxRecDepth 100000 in
set_option maxHeartbeats 1000000 in
theorem grow_nil (k : Nat) (hk : k ≤ 140737488355328) (w : World) :
    Calls Try.prog 100 #[.slice none 0 0, .int .i64 k] w fun e w' => ∃ A c, e = .returned (.slice A 0 c) ∧ w'.ownsRow w.heap.size 5 1 (.slice A 0 c) 0 [] ∧ Below w.heap.size w w' := by
  by_cases h0 : k = 0
  · subst h0
    go_enter Try.func100, Try.ntmps100
    go_wp2
    go_ret
    exact ⟨none, 0, rfl, own_nil _ _ _ _, Below.refl _ _⟩
  · obtain ⟨i0, hi, hz0, hz1, hz2⟩ := info_parts infoByteA
    have hr := Lib.run_append_nil_zeros (P := Try.prog) w 22 3 22 5 i0 (.int .u8 0) .i64 .i64 Try.underlying22 Try.underlying3 hi hz0 k (by omega) (by omega) (by omega) (by rw [hz2]; omega)
    have HR := Lib.hid hr
    have hpos : 0 < k := by omega
    have h0' : (k == 0) = false := by simpa using h0
    clear hr h0
    go_enter Try.func100, Try.ntmps100
    go_wp2_with (at_builtin; refine Lib.wpList_append_run w rfl _ _ _ _ rfl _ _ rfl rfl _ _ HR.out ?_)
    go_ret
    have hge := grownCap_ge w k 0 5
    have hle := grownCap_le_maxLen w k 0 5 (by unfold maxLen; omega)
    refine ⟨_, _, rfl, World.ownsRow_made w.drew _ _ (Nat.le_refl _) hle ?_, ((Below.refl _ _).drew).alloc (Nat.le_refl _) _⟩
    simp only [Array.size_append, size_zeroCells, Value.cells]
    simp
    omega

set_option maxRecDepth 100000 in
set_option maxHeartbeats 2000000 in
theorem concat_any (A : Option Addr) (n c : Nat) (ls : List (List UInt8)) (w : World) (hv : Lists w A n c ls) (T : Nat) (hT : ls.flatten.length = T) (ht : T ≤ 1099511627776) :
    Calls Try.prog 91 #[.slice A n c] w fun e w' => ∃ A' c', e = .returned (.slice A' T c') ∧
      w'.ownsRow w.heap.size 5 1 (.slice A' T c') T (ls.flatten.map byteV) ∧ Below w.heap.size w w' := by
  obtain ⟨i0, hi, hz0, hz1, hz2⟩ := info_parts infoByteA
  have hcap := hv.cap
  have hle := hv.le
  have HL := Lib.hid hv.len
  have HV := Lib.hid hv
  have HT := Lib.hid hT
  have hsum : ∀ j, (ls.take j).flatten.length ≤ T := fun j => by rw [← hT]; exact flatten_take_le ls j
  have HS := Lib.hid hsum
  clear hv hsum hT
  go_enter Try.func91, Try.ntmps91
  go_wp2
  go_loop [3, 11] (fun s i => ∃ j t : Nat, j ≤ n ∧ i = .int .i64 j ∧ s = .int .i64 t ∧ t ≤ T ∧ Hid (t = (ls.take j).flatten.length)) (fun _ i => n - (intOf i).toNat)
  case atStart => exact ⟨0, 0, Nat.zero_le _, rfl, rfl, Nat.zero_le _, by simp [Hid]⟩
  case round =>
    obtain ⟨j, t, hj, rfl, rfl, htT, hte⟩ := hrel
    by_cases hjk : j < n
    · obtain ⟨b, off, A', n', c', rfl, hc, hy⟩ := HV.out.at_ hjk
      have hn' : t + n' ≤ T := by
        have := HS.out (j + 1)
        rw [take_flatten ls j (by rw [HL.out]; exact hjk), List.length_append, hy.len, ← hte.out] at this
        exact this
      have HE : Hid (t + n' = (ls.take (j + 1)).flatten.length) := by
        unfold Hid
        rw [take_flatten ls j (by rw [HL.out]; exact hjk), List.length_append, hy.len, ← hte.out]
      go_wp2
      go_round
      case rel => exact ⟨j + 1, t + n', by omega, by go_num, by go_num, hn', HE⟩
      case measure => simp [intOf]; omega
    · obtain rfl : j = n := by omega
      have HE : Hid (t = T) := by
        unfold Hid
        rw [hte.out, ← HT.out, List.take_of_length_le (by rw [HL.out]; exact Nat.le_refl _)]
      go_wp2_with fail
      refine (grow_nil t (by omega) _).mono ?_
      rintro e w1 ⟨A6, c6, rfl, hown, hb1⟩
      go_wp2_with fail
      go_loopw [6, 27] (fun s i wr => ∃ (k m cc : Nat) (AA : Option Addr), k ≤ j ∧ i = .int .i64 k ∧ s = .slice AA m cc ∧ Hid (m = (ls.take k).flatten.length) ∧
          wr.ownsRow w.heap.size 5 1 (.slice AA m cc) m ((ls.take k).flatten.map byteV) ∧ Below w.heap.size w wr) (fun _ i _ => j - (intOf i).toNat)
      case atStart => exact ⟨0, 0, _, _, Nat.zero_le _, rfl, rfl, by simp [Hid], hown, hb1⟩
      case round =>
        obtain ⟨k, m, cc, AA, hk, rfl, rfl, hm, hownr, hbr⟩ := hrel
        by_cases hkj : k < j
        · obtain ⟨b, off, A', n', c', rfl, hc, hy⟩ := (HV.out.stays hbr).at_ hkj
          have HE2 : Hid (m + n' = (ls.take (k + 1)).flatten.length) := by
            unfold Hid
            rw [take_flatten ls k (by rw [HL.out]; exact hkj), List.length_append, hy.len, ← hm.out]
          have hmn : m + n' ≤ T := by rw [HE2.out]; exact HS.out _
          have HO := Lib.hid hownr
          have HY := Lib.hid hy
          have hsz := hbr.size
          clear hownr hy
          go_wp2_with (at_builtin; refine wpList_append_rd rfl _ _ 22 rfl i0 (.int .u8 0) 1 Try.underlying22 hi hz0 hz1 hz2 rfl (by decide) rfl HO.out rfl HY.out (oneCell_bytes _) ?c1 ?c2 ?c3 ?_)
          case c1 => unfold maxLen; omega
          case c2 => omega
          case c3 => exact hsz
          intro A8 c8 w8 hown8 hg8 hb8
          have H8 := Lib.hid hown8
          clear hown8
          go_wp2
          go_roundw
          case rel =>
            refine ⟨k + 1, m + n', _, _, by omega, by go_num, rfl, HE2, ?_, hbr.trans hb8⟩
            rw [take_flatten ls k (by rw [HL.out]; exact hkj), List.map_append]
            simpa [List.map_flatten, List.map_take] using H8.out
          case measure => simp [intOf]; omega
        · obtain rfl : k = j := by omega
          have HE3 : Hid (m = T) := by
            unfold Hid
            rw [hm.out, ← HT.out, List.take_of_length_le (by rw [HL.out]; exact Nat.le_refl _)]
          have HO := Lib.hid hownr
          clear hownr
          go_wp2
          go_ret
          refine ⟨AA, cc, by rw [← HE3.out]; rfl, ?_, hbr⟩
          have := HO.out
          rw [HE3.out, List.take_of_length_le (by rw [HL.out]; exact Nat.le_refl _)] at this
          exact this
end Go.Proofs.Ytahphlcahaheiaa
