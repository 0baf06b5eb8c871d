/- sectimeref08.Digits. -/
import Derived.Test.YtahphlcahaheiaaDigK
import Derived.Test.YtahphlcahaheiaaItems
import Derived.Deep.RegionLaw
import Derived.StillTactics
namespace Go.Proofs.Ytahphlcahaheiaa
open Go.RowKit

theorem infoSl : (Try.prog.info? 22).map (fun i => (i.zero, i.size, i.bytes)) = some (some (.slice none 0 0), 1, 24) := by kernel_rfl
theorem shr4 : ∀ x < 256, bits .and .u8 ((x : Nat) : Int) 15 = ((x % 16 : Nat) : Int) := by decide +kernel
theorem rd_two (w : World) (e : TypeId) (a b : Value) : Rd (w.alloc (.cells #[a, b] e)) 1 (some ⟨w.heap.size, 0, none⟩) 2 2 [a, b] := by
  refine ⟨rfl, Nat.le_refl _, by decide, fun i u hu => ⟨w.heap.size, 0, rfl, ?_⟩⟩
  rw [Nat.zero_add, cell_of_row _ _ _ _ _ (0, 0) (heap_alloc_new _ _), ← hu]
  simp
theorem rd_three (w : World) (e : TypeId) (a b c : Value) : Rd (w.alloc (.cells #[a, b, c] e)) 1 (some ⟨w.heap.size, 0, none⟩) 3 3 [a, b, c] := by
  refine ⟨rfl, Nat.le_refl _, by decide, fun i u hu => ⟨w.heap.size, 0, rfl, ?_⟩⟩
  rw [Nat.zero_add, cell_of_row _ _ _ _ _ (0, 0) (heap_alloc_new _ _), ← hu]
  simp
theorem digs_take (l : List UInt8) (k : Nat) (h : k < l.length) : digs (l.take (k + 1)) = digs (l.take k) ++ [byteAt l k / 16, byteAt l k % 16] := by
  rw [List.take_succ_eq_append_getElem h]
  have e : byteAt l k = (l[k]'h).toNat := by simp [byteAt, h, List.getD]
  simp only [digs, List.flatMap_append, List.flatMap_cons, List.flatMap_nil, List.append_nil]
  rw [← e]
set_option maxRecDepth 100000 in
set_option maxHeartbeats 4000000 in
theorem refDigits_any (A : Option Addr) (c : Nat) (l : List UInt8) (w : World) (hv : Bytes w A 16 c l) :
    Calls Try.prog 31 #[.slice A 16 c] w fun e w' => ∃ A' c', e = .returned (.tuple #[.slice A' 35 c', .int .i64 0]) ∧ Rd w' 1 A' 35 c' ((allD l).map numV) ∧ Below w.heap.size w w' := by
  obtain ⟨i0, hi, hz0, hz1, hz2⟩ := info_parts infoInt
  have hcap := hv.cap
  have hle := hv.le
  have HL := Lib.hid hv.len
  have HV := Lib.hid hv
  clear hv
  go_enter Try.func31, Try.ntmps31
  go_wp2
  go_loopw [4, 5, 6, 7, 8] (fun s t i _ _ wr => ∃ (k m S cc : Nat) (AA : Option Addr), k ≤ 16 ∧ i = .int .i64 k ∧ s = .slice AA m cc ∧ t = .int .i64 S ∧ Hid (m = 2 * k) ∧ Hid (S = sumD (digs (l.take k))) ∧ S ≤ 30 * k ∧
      Hid (wr.ownsRow w.heap.size 3 1 (.slice AA m cc) m ((digs (l.take k)).map numV)) ∧ Below w.heap.size w wr) (fun _ _ i _ _ _ => 16 - (intOf i).toNat)
  case atStart => exact ⟨0, 0, 0, 0, none, by omega, rfl, rfl, rfl, rfl, by simp [Hid, digs, sumD], by omega, own_nil _ _ _ _, by go_grown⟩
  case round =>
    obtain ⟨k, m, S, cc, AA, hk, rfl, rfl, rfl, hm, hS, hSk, HO, hbr⟩ := hrel
    have hsr := hbr.size
    by_cases hk16 : k < 16
    · have hki : (k : Int) < 16 := by omega
      obtain ⟨b, off, rfl, hc⟩ := (HV.out.stays hbr).at_ hk16
      have hb1 := byteAt_lt l k
      have HT := Lib.hid (digs_take l k (by rw [HL.out]; exact hk16))
      generalize byteAt l k = x at *
      obtain ⟨d0, h0⟩ : ∃ d0 : Nat, x / 16 = d0 := ⟨_, rfl⟩
      obtain ⟨d1, h1⟩ : ∃ d1 : Nat, x % 16 = d1 := ⟨_, rfl⟩
      rw [h0, h1] at HT
      have w1 : (x : Int) / 16 = (d0 : Int) := by omega
      have w3 : bits BinOp.and IntKind.u8 (x : Int) 15 = (d1 : Int) := by rw [shr4 x hb1, h1]
      have w4 : IntKind.i64.wrap (d0 : Int) = (d0 : Int) := IntWalk.i64_in _ (by omega)
      have w5 : IntKind.i64.wrap (d1 : Int) = (d1 : Int) := IntWalk.i64_in _ (by omega)
      have h0' : d0 ≤ 15 := by omega
      have h1' : d1 ≤ 15 := by omega
      clear h0 h1
      go_wp2_with fail
      refine region_still (by kernel_rfl) (by kernel_rfl) ?_
      repeat ((with_reducible refine wpStill_step (fun K hK => ?_)); go_simp; (with_reducible refine hK _ ?_); clear hK K)
      refine wpStill_nil ?_
      clear w1 w3 w4 w5
      go_wp2_with (at_builtin; refine wpList_append_rd rfl _ _ 23 rfl i0 (.int .i64 0) 8 Try.underlying23 hi hz0 hz1 hz2 rfl (by decide) rfl (own_alloc (own_below HO.out (show Below wr.heap.size wr _ from (Below.refl _ _).drew)) _) rfl (rd_two _ _ _ _) (by simp [Value.oneCell']) ?c1 ?c2 ?c3 ?_)
      case c1 => have := hm.out; unfold maxLen; omega
      case c2 => have := hm.out; omega
      case c3 => first | omega | (simp; omega)
      intro A8 c8 w8 hown8 hg8 hb8
      have H8 := Lib.hid hown8
      have hB8 : Below w.heap.size w w8 := (show Below w.heap.size w _ by go_grown).trans hb8
      clear hown8 hg8 hb8
      go_wp2
      go_roundw
      case rel =>
        refine ⟨k + 1, m + 2, S + (15 - d0) + (15 - d1), c8, A8, by omega, by go_num, rfl, congrArg (Value.int .i64) (by omega), by have := hm.out; unfold Hid; omega, by unfold Hid; rw [HT.out, hS.out]; simp [sumD]; omega, by omega, ?_, hB8⟩
        unfold Hid
        rw [HT.out, List.map_append]
        exact H8.out
      case measure => simp [intOf]; omega
    · obtain rfl : k = 16 := by omega
      have htk : l.take 16 = l := List.take_of_length_le (by rw [HL.out]; exact Nat.le_refl _)
      rw [htk] at HO hS
      obtain rfl : m = 32 := hm.out
      have HA : Hid (allD l = digs l ++ tailD S) := by unfold Hid allD; rw [hS.out]
      have hS2 : S ≤ 480 := by omega
      clear hS htk
      obtain ⟨t0, ht0⟩ : ∃ t0, S / 256 % 16 = t0 := ⟨_, rfl⟩
      obtain ⟨t1, ht1⟩ : ∃ t1, S / 16 % 16 = t1 := ⟨_, rfl⟩
      obtain ⟨t2, ht2⟩ : ∃ t2, S % 16 = t2 := ⟨_, rfl⟩
      have HTD : Hid (tailD S = [t0, t1, t2]) := by unfold Hid tailD; rw [ht0, ht1, ht2]
      have g1 : (S : Int) / 256 = (t0 : Int) := by omega
      have g2 : ((S : Int) / 16) % 16 = (t1 : Int) := by omega
      have g3 : (S : Int) % 16 = (t2 : Int) := by omega
      clear ht0 ht1 ht2
      go_wp2_with (at_builtin; refine wpList_append_rd rfl _ _ 23 rfl i0 (.int .i64 0) 8 Try.underlying23 hi hz0 hz1 hz2 rfl (by decide) rfl (own_alloc (own_below HO.out (Below.refl _ _)) _) rfl (rd_three _ _ _ _ _) (by simp [Value.oneCell']) ?c1 ?c2 ?c3 ?_)
      case c1 => unfold maxLen; omega
      case c3 => first | omega | (simp; omega)
      intro A8 c8 w8 hown8 hg8 hb8
      have H8 := Lib.hid hown8
      have hB8 : Below w.heap.size w w8 := (show Below w.heap.size w _ by go_grown).trans hb8
      clear hown8 hg8 hb8 g1 g2 g3
      go_wp2
      go_returns
      refine ⟨A8, c8, rfl, ?_, hB8⟩
      have h9 := own_rd H8.out
      rw [HA.out, HTD.out, List.map_append]
      exact h9
theorem refDigits_err (A : Option Addr) (n c : Nat) (w : World) (hn : ¬ n = 16) :
    Calls Try.prog 31 #[.slice A n c] w fun e w' => e = .returned (.tuple #[.slice none 0 0, .int .i64 3]) ∧ w = w' := by
  have hn' : ¬ (n : Int) = 16 := by omega
  go_enter Try.func31, Try.ntmps31
  go_wp2
  go_returns
  exact ⟨rfl, rfl⟩
end Go.Proofs.Ytahphlcahaheiaa
