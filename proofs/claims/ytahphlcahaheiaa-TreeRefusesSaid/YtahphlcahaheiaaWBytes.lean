/- sectimeworld.Bytes. -/
import Derived.Test.YtahphlcahaheiaaRefS
import Derived.Test.YtahphlcahaheiaaWorldL
namespace Go.Proofs.Ytahphlcahaheiaa
open Go.RowKit

theorem Bytes.cut0 {w : World} {A : Option Addr} {n c : Nat} {l : List UInt8} (h : Bytes w A n c l) (m : Nat) (hm : m ≤ n) : Bytes w A m c (l.take m) := by
  refine ⟨by have := h.len; simp; omega, Nat.le_trans hm h.le, h.2.2.1, fun i u hu => ?_⟩
  rw [List.map_take, List.getElem?_take] at hu
  split at hu
  · exact h.2.2.2 i u hu
  · cases hu
theorem Bytes.cap_ {w : World} {A : Option Addr} {n c : Nat} {l : List UInt8} (h : Bytes w A n c l) : Bytes w A n n l := ⟨h.1, Nat.le_refl _, Nat.le_trans h.le h.2.2.1, h.2.2.2⟩
set_option maxRecDepth 100000 in
set_option maxHeartbeats 8000000 in
theorem wbytes_any (s n : Nat) (w : World) (hs : s < 18446744073709551616) (hs2 : s ≤ 9223372036854775807) (hn : n ≤ 100000) :
    Calls Try.prog 22 #[.int .i64 s, .int .i64 n] w fun e w' => ∃ A' c', e = .returned (.slice A' n c') ∧ Bytes w' A' n c' (wbytesL s n) ∧ Below w.heap.size w w' := by
  obtain ⟨i0, hi, hz0, hz1, hz2⟩ := info_parts infoByteA
  have hcv : IntKind.u64.wrap (s : Int) = (s : Int) := IntWalk.u64_in _ (by omega)
  go_enter Try.func22, Try.ntmps22
  go_wp2
  go_loopw [5, 6] (fun o i wr => ∃ (j m cc : Nat) (AA : Option Addr), 32 * j ≤ n + 31 ∧ o = .slice AA m cc ∧ i = .int .i64 j ∧ Hid (m = 32 * j) ∧ Hid (wr.ownsRow w.heap.size 5 1 (.slice AA m cc) m ((streamL s j).map byteV)) ∧ Below w.heap.size w wr) (fun _ i _ => n - 32 * (intOf i).toNat)
  case atStart => exact ⟨0, 0, _, _, by omega, rfl, rfl, rfl, World.ownsRow_lit w _ _ (Nat.le_refl _) (by decide) rfl, by go_grown⟩
  case round =>
    obtain ⟨j, m, cc, AA, hj, rfl, rfl, hm, HO, hbr⟩ := hrel
    have hsr := hbr.size
    by_cases hmn : m < n
    · have hmi : (m : Int) < (n : Int) := by omega
      have hcj : IntKind.u64.wrap (j : Int) = (j : Int) := IntWalk.u64_in _ (by omega)
      have hj2 : j ≤ 1000000 := by omega
      have hm2 : m ≤ 1000000 := by omega
      go_wp2_with fail
      clear hcv hcj
      refine (refPut_reads s 8 (by omega) _).mono ?_
      rintro e w1 ⟨A1, c1, rfl, hv1, hb1⟩
      have V1 := Lib.hid hv1
      have HO1 := Lib.hid (own_below HO.out hb1)
      have R1 : Below w.heap.size w w1 := below_via hbr hb1 hsr
      have hs1 := R1.size
      clear hv1 hb1
      have hcj : IntKind.u64.wrap (j : Int) = (j : Int) := IntWalk.u64_in _ (by omega)
      go_wp2_with fail
      clear hcj
      refine (refPut_reads j 4 (by omega) _).mono ?_
      rintro e w2 ⟨A2, c2, rfl, hv2, hb2⟩
      have V2 := Lib.hid hv2
      have V1 := Lib.hid (V1.out.stays hb2)
      have HO2 := Lib.hid (own_below HO1.out hb2)
      have R2 : Below w.heap.size w w2 := below_via R1 hb2 hs1
      have hs2 := R2.size
      clear hv2 hb2
      go_wp2_with fail
      refine (refJoin_any _ _ _ [putL s 8, putL j 4] _ (lists_made2 V1.out V2.out) 12 (by simp [putL_length]) (by omega)).mono ?_
      rintro e w3 ⟨A3, c3, rfl, hv3, hb3⟩
      have hbx : Below w2.heap.size w2 w3 := below_via (by go_grown) hb3 (by simp)
      have V3 : Hid (Bytes w3 A3 12 c3 (putL s 8 ++ putL j 4)) := by
        have := own_rd hv3
        simpa [Hid, Bytes] using this
      have HO3 := Lib.hid (own_below HO2.out hbx)
      have R3 : Below w.heap.size w w3 := below_via R2 hbx hs2
      have hs3 := R3.size
      clear hv3 hb3 hbx
      go_wp2_with fail
      refine (refSum_any _ _ _ _ _ V3.out).mono ?_
      rintro e w4 ⟨A4, c4, rfl, hv4, hb4⟩
      have V4 : Hid (Bytes w4 A4 32 c4 (ctrL s j)) := own_rd hv4
      have HO4 := Lib.hid (own_below HO3.out hb4)
      have R4 : Below w.heap.size w w4 := below_via R3 hb4 hs3
      have hs4 := R4.size
      clear hv4 hb4
      go_wp2_with (at_builtin; refine wpList_append_rd rfl _ _ 22 rfl i0 (.int .u8 0) 1 Try.underlying22 hi hz0 hz1 hz2 rfl (by decide) rfl HO4.out rfl V4.out (oneCell_bytes _) ?c1 ?c2 ?c3 ?_)
      case c1 => have := hm.out; unfold maxLen; omega
      case c2 => have := hm.out; omega
      case c3 => omega
      intro A8 c8 w8 hown8 hg8 hb8
      have H8 := Lib.hid hown8
      have hB8 := R4.trans hb8
      clear hown8 hg8 hb8
      have hcv : IntKind.u64.wrap (s : Int) = (s : Int) := IntWalk.u64_in _ (by omega)
      go_wp2
      go_roundw
      case rel =>
        refine ⟨j + 1, m + 32, c8, A8, by have := hm.out; omega, rfl, by go_num, by have := hm.out; unfold Hid; omega, ?_, hB8⟩
        unfold Hid
        rw [streamL, List.map_append]
        exact H8.out
      case measure => have := hm.out; simp [intOf]; omega
    · have hmi : ¬ (m : Int) < (n : Int) := by omega
      have hr : Bytes wr AA m cc (streamL s j) := own_rd HO.out
      have q1 := hr.le
      have q2 := hr.cap
      have hcut := hr.cut0 n (by omega)
      rw [wbytesL_of s n j (by have := hm.out; omega)] at hcut
      have HC := Lib.hid hcut
      clear hcut hr
      go_wp2
      go_ret
      exact ⟨_, _, rfl, HC.out, hbr⟩
end Go.Proofs.Ytahphlcahaheiaa
