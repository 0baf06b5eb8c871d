/- sectimeref01.Pad. -/
import Derived.Test.YtofadjcphaehcaaCut
namespace Go.Proofs.Ytofadjcphaehcaa
open Go.RowKit

set_option maxRecDepth 100000 in
set_option maxHeartbeats 2000000 in
theorem refPad_any (l : List UInt8) (A : Option Addr) (n c : Nat) (k : Int) (w : World) (h : Bytes w A n c l) (hn : n ≤ 100000) :
    Calls Try.prog 46 #[.slice A n c, .int .i64 k] w fun e w' => ∃ A' m c', e = .returned (.slice A' m c') ∧ Bytes w' A' m c' (padB l k) ∧ Below w.heap.size w w' := by
  obtain ⟨i0, hi, hz0, hz1, hz2⟩ := info_parts infoByteA
  have HL := Lib.hid h.len
  have HB := Lib.hid h
  clear h
  by_cases hk : 1 ≤ k ∧ k ≤ 64
  · obtain ⟨hk1, hk2⟩ := hk
    obtain ⟨m, rfl⟩ := Int.eq_ofNat_of_zero_le (show 0 ≤ k by omega)
    have HP : Hid (padB l m = l ++ List.replicate (padZ n m) 0) := by
      unfold Hid padB
      rw [if_pos ⟨hk1, hk2⟩, HL.out]
      rfl
    have hzl := padZ_lt n m (by omega)
    go_enter Try.func46, Try.ntmps46
    go_wp2_with fail
    refine (refJoin_any _ _ _ [l] _ (lists_made1 HB.out) n (by rw [List.flatten_cons, List.flatten_nil, List.append_nil]; exact HL.out) (by omega)).mono ?_
    rintro e w1 ⟨A1, c1, rfl, hv, hb⟩
    have HO := Lib.hid (own_more (B' := w.heap.size) hv (by simp))
    rw [List.flatten_cons, List.flatten_nil, List.append_nil] at HO
    have R1 : Below w.heap.size w w1 := below_via (by go_grown) hb (by simp)
    have hs1 := R1.size
    clear hv hb
    go_wp2
    go_loopw [5] (fun o wr => ∃ (z cc : Nat) (AA : Option Addr), z ≤ padZ n m ∧ o = .slice AA (n + z) cc ∧ Hid (wr.ownsRow w.heap.size 5 1 (.slice AA (n + z) cc) (n + z) ((l ++ List.replicate z 0).map byteV)) ∧ Below w.heap.size w wr) (fun o _ => match o with | .slice _ q _ => n + padZ n m - q | _ => 0)
    case atStart => exact ⟨0, c1, A1, Nat.zero_le _, rfl, by simpa [Hid] using HO.out, R1⟩
    case round =>
      clear HO R1
      obtain ⟨z, cc, AA, hz, rfl, HO, hbr⟩ := hrel
      have hsr := hbr.size
      have hpz := padZ_at n m z (by omega) hz
      have htm : ((n : Int) + (z : Int)).tmod (m : Int) = (((n + z) % m : Nat) : Int) := by
        rw [Int.tmod_eq_emod_of_nonneg (by omega), Int.natCast_emod, Int.natCast_add]
      have hem : ((n : Int) + (z : Int)) % (m : Int) = (((n + z) % m : Nat) : Int) := by rw [Int.natCast_emod, Int.natCast_add]
      have hm0 : (m == 0) = false := by simp; omega
      have hm0' : ((m : Int) == 0) = false := by simp; omega
      by_cases hze : z = padZ n m
      · have h0 := hpz.2 hze
        rw [h0] at htm hem
        clear hpz
        subst hze
        have V1 : Hid (Bytes wr AA (n + padZ n m) cc (l ++ List.replicate (padZ n m) 0)) := own_rd HO.out
        go_wp2
        go_ret
        exact ⟨_, _, _, rfl, by rw [HP.out]; exact V1.out, hbr⟩
      · have hr0 : ¬ (n + z) % m = 0 := fun e => hze (hpz.1 e)
        clear hpz
        generalize (n + z) % m = r at htm hem hr0
        have h0 : ((r : Int) == 0) = false := by simpa using hr0
        have h1 : ¬ (r : Int) = 0 := by omega
        have HOA := Lib.hid (own_alloc HO.out (.cells #[.int .u8 0] 5))
        go_wp2_with (at_builtin; refine wpList_append_rd rfl _ _ 23 rfl i0 (.int .u8 0) 1 Try.underlying23 hi hz0 hz1 hz2 rfl (by decide) rfl HOA.out rfl (rd_one _ _ _) (oneCell_bytes [0]) ?c1 ?c2 ?c3 ?_)
        case c1 => unfold maxLen; omega
        case c2 => omega
        case c3 => first | omega | (simp; omega)
        intro A4 c4 w4 hown4 hg4 hb4
        have hB4 : Below w.heap.size w w4 := (hbr.alloc hsr _).trans hb4
        have H4 := Lib.hid hown4
        clear hown4 hg4 hb4 HO HOA
        go_wp2
        go_roundw
        case rel =>
          have h4 := H4.out
          simp [byteV] at h4
          exact ⟨z + 1, c4, A4, by omega, rfl, by simp [Hid, byteV, List.replicate_succ']; exact h4, hB4⟩
        case measure => simp; omega
  · have HP : Hid (padB l k = l) := by
      unfold Hid padB
      rw [if_neg hk]
    by_cases hk1 : k < 1
    all_goals
      first
        | (have h2 : k > 64 := by omega
           go_enter Try.func46, Try.ntmps46)
        | go_enter Try.func46, Try.ntmps46
      go_wp2_with fail
      refine (refJoin_any _ _ _ [l] _ (lists_made1 HB.out) n (by rw [List.flatten_cons, List.flatten_nil, List.append_nil]; exact HL.out) (by omega)).mono ?_
      rintro e w1 ⟨A1, c1, rfl, hv, hb⟩
      have V1 : Hid (Bytes w1 A1 n c1 l) := rd_join1 hv
      have hb : Below w.heap.size w w1 := below_via (by go_grown) hb (by simp)
      clear hv
      go_wp2
      go_loopw [5] (fun o wr => o = .slice A1 n c1 ∧ wr = w1) (fun _ _ => 0)
      case atStart => exact ⟨rfl, rfl⟩
      case round =>
        obtain ⟨rfl, rfl⟩ := hrel
        go_wp2
        go_ret
        exact ⟨_, _, _, rfl, by rw [HP.out]; exact V1.out, hb⟩
end Go.Proofs.Ytofadjcphaehcaa
