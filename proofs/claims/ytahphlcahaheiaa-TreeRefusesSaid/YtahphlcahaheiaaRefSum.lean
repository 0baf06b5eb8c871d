/- sectimeref02: first, constants, finish, Sum. -/
import Derived.Test.YtahphlcahaheiaaRefBlk
import Derived.Test.YtahphlcahaheiaaPut
import Derived.Test.YtahphlcahaheiaaRefJoin
namespace Go.Proofs.Ytahphlcahaheiaa
open Go.RowKit

theorem refFirst_any (w : World) : Calls Try.prog 70 #[] w fun e w' => ∃ A', e = .returned (.slice A' 8 8) ∧ Words w' A' 8 8 (stL firstS) ∧ Below w.heap.size w w' := by
  go_enter Try.func70, Try.ntmps70
  go_wp2
  go_ret
  exact ⟨_, rfl, words_lit firstS, by go_grown⟩
set_option maxRecDepth 100000 in
theorem refConst_any (w : World) : Calls Try.prog 71 #[] w fun e w' => ∃ A', e = .returned (.slice A' 64 64) ∧ Words w' A' 64 64 kTab ∧ Below w.heap.size w w' := by
  go_enter Try.func71, Try.ntmps71
  go_wp2
  go_ret
  refine ⟨_, rfl, ⟨rfl, Nat.le_refl _, by decide, fun i u hu => ⟨_, _, rfl, ?_⟩⟩, by go_grown⟩
  rw [World.cell?_alloc_at _ _ _ _ rfl, Nat.zero_add, ← hu]
  simp [kTab, wV]

/-- The bytes of the first k words. -/
def outTo (s : St) (k : Nat) : List UInt8 := ((stL s).take k).flatMap fun x => putL x.toNat 4
theorem outTo_step (s : St) (k : Nat) (h : k < 8) : outTo s (k + 1) = outTo s k ++ putL (wAt (stL s) k).toNat 4 := by
  match k, h with
  | 0, _ | 1, _ | 2, _ | 3, _ | 4, _ | 5, _ | 6, _ | 7, _ => simp [outTo, stL, wAt]
theorem outTo_end (s : St) : outTo s 8 = outL s := by simp [outTo, stL, outL]
theorem wAt_stL {s : St} (h : InS s) (k : Nat) : InW (wAt (stL s) k) := by
  refine wAt_in (fun x hx => ?_) k
  obtain ⟨h0, h1, h2, h3, h4, h5, h6, h7⟩ := h
  simp only [stL, List.mem_cons, List.not_mem_nil, or_false] at hx
  rcases hx with rfl | rfl | rfl | rfl | rfl | rfl | rfl | rfl <;> assumption
theorem pad_mod (n z : Nat) (hn : n < 64) (hz : z ≤ padN n) : ((n + 1 + z) % 64 = 56) ↔ z = padN n := by
  unfold padN at *
  split at hz <;> rename_i h
  · rw [if_pos h]; omega
  · rw [if_neg h]; omega
theorem padN_le (n : Nat) : padN n ≤ 119 := by unfold padN; split <;> omega
theorem pad_len (n : Nat) (h : n < 64) : n + 1 + padN n + 8 = 64 * (if n + 9 ≤ 64 then 1 else 2) := by unfold padN; split <;> omega

set_option maxRecDepth 100000 in
set_option maxHeartbeats 4000000 in
theorem refFinish_any (s : St) (hs : InS s) (l : List UInt8) (Ah Ab : Option Addr) (ch n cb count : Nat) (w : World) (hh : Words w Ah 8 ch (stL s)) (hb : Bytes w Ab n cb l) (hn : n < 64) (hc : count ≤ 9223372036854775807) :
    Calls Try.prog 73 #[.slice Ah 8 ch, .slice Ab n cb, .int .i64 count] w fun e w' => ∃ A' c', e = .returned (.slice A' 32 c') ∧ w'.ownsRow w.heap.size 5 1 (.slice A' 32 c') 32 ((finL s l count).map byteV) ∧ Below w.heap.size w w' := by
  obtain ⟨i0, hi, hz0, hz1, hz2⟩ := info_parts infoByteA
  have ch1 := hh.le
  have ch2 := hh.cap
  have cb1 := hb.le
  have cb2 := hb.cap
  have HL := Lib.hid hb.len
  have HH := Lib.hid hh
  have HB := Lib.hid hb
  clear hh hb
  go_enter Try.func73, Try.ntmps73
  go_wp2_with fail
  refine (refConst_any _).mono ?_
  rintro e w1 ⟨Ak, rfl, hk, hb1⟩
  have HK := Lib.hid hk
  have HH := Lib.hid (HH.out.stays hb1)
  have HB := Lib.hid (HB.out.stays hb1)
  have hB1 := hb1.size
  have R1 := Lib.hid hb1
  clear hk hb1
  go_wp2_with fail
  refine (refJoin_any _ _ _ [l] _ (lists_made1 HB.out) n (by simp [HL.out]) (by omega)).mono ?_
  rintro e w2 ⟨Aj, cj, rfl, hj, hb2⟩
  have hB2 : Below w1.heap.size w1 w2 := below_via (by go_grown) hb2 (by simp)
  have hs2 := hB2.size
  have hw2 := hb2.size
  simp at hw2
  have HO := Lib.hid (own_alloc (own_more (B' := w1.heap.size) hj (by simp)) (.cells #[.int .u8 128] 5))
  clear hj hb2
  go_wp2_with (at_builtin; refine wpList_append_rd rfl _ _ 22 rfl i0 (.int .u8 0) 1 Try.underlying22 hi hz0 hz1 hz2 rfl (by decide) rfl HO.out rfl (rd_one _ _ _) (oneCell_bytes [128]) ?c1 ?c2 ?c3 ?_)
  case c1 => unfold maxLen; omega
  case c2 => omega
  case c3 => simp; omega
  intro A3 c3 w3 hown3 hg3 hb3
  have hB3 : Below w1.heap.size w1 w3 := (hB2.alloc hs2 _).trans hb3
  have H3 := Lib.hid hown3
  clear hown3 hg3 hb3 HO hB2
  have hp := padN_le n
  go_wp2
  go_loopw [8] (fun b wr => ∃ (z cc : Nat) (AA : Option Addr), z ≤ padN n ∧ b = .slice AA (n + 1 + z) cc ∧ Hid (wr.ownsRow w1.heap.size 5 1 (.slice AA (n + 1 + z) cc) (n + 1 + z) ((l ++ 128 :: List.replicate z 0).map byteV)) ∧ Below w1.heap.size w1 wr) (fun b _ => match b with | .slice _ m _ => n + 1 + padN n - m | _ => 0)
  case atStart => exact ⟨0, c3, A3, Nat.zero_le _, rfl, by simpa [Hid, byteV] using H3.out, hB3⟩
  case round =>
    clear H3 hB3
    obtain ⟨z, cc, AA, hz, rfl, HO, hbr⟩ := hrel
    have hsr := hbr.size
    have hm := pad_mod n z hn hz
    by_cases hze : z = padN n
    · have hm2 : (((n : Int) + 1 + (z : Int)) % 64 != 56) = false := by
        have := hm.2 hze
        simp; omega
      clear hm
      subst hze
      have hcv : IntKind.u64.wrap (count : Int) = (count : Int) := IntWalk.u64_in _ (by omega)
      go_wp2_with fail
      clear hcv
      rw [cnt_wrap count]
      refine (refPut_reads _ 8 (by omega) _).mono ?_
      rintro e w4 ⟨A4, c4, rfl, hv4, hb4⟩
      have HV := Lib.hid hv4
      have HO := Lib.hid (own_below HO.out hb4)
      have hB4 : Below w1.heap.size w1 w4 := below_via hbr hb4 hsr
      have hs4 := hB4.size
      clear hv4 hb4
      go_wp2_with (at_builtin; refine wpList_append_rd rfl _ _ 22 rfl i0 (.int .u8 0) 1 Try.underlying22 hi hz0 hz1 hz2 rfl (by decide) rfl HO.out rfl HV.out (oneCell_bytes _) ?c1 ?c2 ?c3 ?_)
      case c1 => unfold maxLen; omega
      case c2 => omega
      case c3 => omega
      intro A5 c5 w5 hown5 hg5 hb5
      have hB5 : Below w1.heap.size w1 w5 := hB4.trans hb5
      obtain ⟨K, hK, hTK⟩ : ∃ K, Hid ((if n + 9 ≤ 64 then 1 else 2) = K) ∧ n + 1 + padN n + 8 = 64 * K := ⟨if n + 9 ≤ 64 then 1 else 2, rfl, pad_len n hn⟩
      have hK2 : K ≤ 2 := by have := hK.out; split at this <;> omega
      rw [hTK] at hown5 ⊢
      have H5 : Hid (Bytes w5 A5 (64 * K) c5 (l ++ padL n count)) := by
        have := own_rd hown5
        unfold Hid Bytes
        rw [padL_cnt]
        simpa using this
      have h5a := H5.out.le
      have h5b := H5.out.cap
      have HK5 := Lib.hid (HK.out.stays hB5)
      have HH5 := Lib.hid (HH.out.stays hB5)
      generalize hLL : l ++ padL n count = L at *
      have HLL := Lib.hid hLL
      clear hLL hown5 hg5 hb5 hTK HO HV hB4 hs4 hm2 hz hsr hbr hw2 hs2
      go_wp2
      go_loopw [0, 9] (fun h i wz => ∃ (j cc : Nat) (AA : Option Addr), j ≤ K ∧ h = .slice AA 8 cc ∧ i = .int .i64 (64 * (j : Int)) ∧ Hid (Words wz AA 8 cc (stL (blocksL s L j))) ∧ Below w5.heap.size w5 wz) (fun _ i _ => 64 * K - (intOf i).toNat)
      case atStart => exact ⟨0, ch, Ah, by omega, rfl, rfl, HH5, by go_grown⟩
      case round =>
        clear HH5
        obtain ⟨j, cc, AA, hj, rfl, rfl, HW, hbz⟩ := hrel
        by_cases hjK : j < K
        · have q1 : (64 : Int) * (j : Int) < 64 * (K : Int) := by omega
          have hcut := (H5.out.stays hbz).cut (64 * j) (64 * j + 64) (by omega) (by omega)
          rw [show 64 * j + 64 - 64 * j = 64 by omega] at hcut
          rw [if_neg (by omega)] at hcut
          have HC := Lib.hid hcut
          clear hcut
          go_wp2_with fail
          refine (refBlock_any _ _ _ _ _ _ _ _ _ HW.out (HK5.out.stays hbz) HC.out).mono ?_
          rintro e w6 ⟨A6, rfl, hv6, hb6⟩
          have HV6 := Lib.hid hv6
          have hB6 := hbz.trans (hb6.mono hbz.size)
          clear hv6 hb6 HC HW
          go_wp2
          go_roundw
          case rel => exact ⟨j + 1, 8, A6, by omega, rfl, by go_num, HV6, hB6⟩
          case measure => simp [intOf]; omega
        · obtain rfl : j = K := by omega
          obtain ⟨S, hS, hSi⟩ : ∃ S, Hid (blocksL s L j = S) ∧ InS S := ⟨_, rfl, blocks_in hs L j⟩
          rw [hS.out] at HW
          have hSS := Lib.hid hSi
          have hfin : Hid (finL s l count = outTo S 8) := by
            unfold Hid
            rw [finL, outTo_end, ← hS.out, ← HLL.out, HL.out, hK.out]
          have hB7 := hB5.trans (hbz.mono hB5.size)
          clear hSi
          obtain ⟨wo, rfl⟩ : ∃ wo : World, wo = wr := ⟨_, rfl⟩
          go_wp2
          go_loopw [10, 11] (fun o i wz => ∃ (k cc : Nat) (AA : Option Addr), k ≤ 8 ∧ o = .slice AA (4 * k) cc ∧ i = .int .i64 k ∧ Hid (wz.ownsRow wo.heap.size 5 1 (.slice AA (4 * k) cc) (4 * k) ((outTo S k).map byteV)) ∧ Below wo.heap.size wo wz) (fun _ i _ => 8 - (intOf i).toNat)
          case atStart => exact ⟨0, 0, _, by omega, rfl, rfl, World.ownsRow_lit wo _ _ (Nat.le_refl _) (by decide) rfl, by go_grown⟩
          case round =>
            obtain ⟨k, cc, AA2, hk, rfl, rfl, HO2, hbz2⟩ := hrel
            have hz2s := hbz2.size
            by_cases hk8 : k < 8
            · obtain ⟨b, off, rfl, hc0⟩ := (HW.out.stays hbz2).at_ hk8
              have hin := wAt_stL hSS.out k
              have hst := Lib.hid (outTo_step S k hk8)
              generalize wAt (stL S) k = X at *
              obtain ⟨h0, h1⟩ := hin
              obtain ⟨x, rfl⟩ := Int.eq_ofNat_of_zero_le h0
              have hcv : IntKind.u64.wrap (x : Int) = (x : Int) := IntWalk.u64_in _ (by omega)
              rw [Int.toNat_natCast] at hst
              have hk7 : k ≤ 7 := by omega
              have hki : (k : Int) < 8 := by omega
              clear hk8
              go_wp2_with fail
              clear hcv
              refine (refPut_reads x 4 (by omega) _).mono ?_
              rintro e w8 ⟨A8, c8, rfl, hv8, hb8⟩
              have HV := Lib.hid hv8
              have HO8 := Lib.hid (own_below HO2.out hb8)
              have hB8 : Below wo.heap.size wo w8 := below_via hbz2 hb8 hz2s
              have hs8 := hB8.size
              clear hv8 hb8
              go_wp2_with (at_builtin; refine wpList_append_rd rfl _ _ 22 rfl i0 (.int .u8 0) 1 Try.underlying22 hi hz0 hz1 hz2 rfl (by decide) rfl HO8.out rfl HV.out (oneCell_bytes _) ?c1 ?c2 ?c3 ?_)
              case c1 => unfold maxLen; omega
              case c2 => omega
              case c3 => omega
              intro A9 c9 w9 hown9 hg9 hb9
              have H9 := Lib.hid hown9
              have hB9 : Below wo.heap.size wo w9 := hB8.trans hb9
              clear hown9 hg9 hb9
              go_wp2
              go_roundw
              case rel =>
                refine ⟨k + 1, c9, A9, by omega, rfl, by go_num, ?_, hB9⟩
                unfold Hid
                rw [hst.out, List.map_append]
                exact H9.out
              case measure => simp [intOf]; omega
            · obtain rfl : k = 8 := by omega
              have hsz7 := hB7.size
              go_wp2
              go_ret
              refine ⟨AA2, cc, rfl, ?_, ?_⟩
              · rw [hfin.out]
                exact own_more HO2.out (by omega)
              · exact R1.out.trans ((hB7.trans (hbz2.mono hsz7)).mono hB1)
    · have hm2 : (((n : Int) + 1 + (z : Int)) % 64 != 56) = true := by
        have : ¬ (n + 1 + z) % 64 = 56 := fun e => hze (hm.1 e)
        simp; omega
      clear hm
      have HO := Lib.hid (own_alloc HO.out (.cells #[.int .u8 0] 5))
      go_wp2_with (at_builtin; refine wpList_append_rd rfl _ _ 22 rfl i0 (.int .u8 0) 1 Try.underlying22 hi hz0 hz1 hz2 rfl (by decide) rfl HO.out rfl (rd_one _ _ _) (oneCell_bytes [0]) ?c1 ?c2 ?c3 ?_)
      case c1 => unfold maxLen; omega
      case c2 => omega
      case c3 => simp; omega
      intro A4 c4 w4 hown4 hg4 hb4
      have hB4 : Below w1.heap.size w1 w4 := (hbr.alloc hsr _).trans hb4
      have H4 := Lib.hid hown4
      clear hown4 hg4 hb4 HO
      go_wp2
      go_roundw
      case rel =>
        have h4 := H4.out
        simp [byteV] at h4
        exact ⟨z + 1, c4, A4, by omega, rfl, by simp [Hid, byteV, List.replicate_succ']; exact h4, hB4⟩
      case measure => simp; omega
end Go.Proofs.Ytahphlcahaheiaa
