/- onetime.Public and its reference. -/
import Derived.Test.YtahphlcahaheiaaOneA
namespace Go.Proofs.Ytahphlcahaheiaa
open Go.RowKit

theorem make_ends (w : World) : (Instr.makeSlice 22 (.int .i64 0) (.int .i64 560)).run Try.prog w =
    .ok (.slice (some ⟨w.heap.size, 0, none⟩) 0 560) (w.alloc (.cells (madeCells #[.int .u8 0] 560) 5)) := by
  obtain ⟨i0, hi, hz0, hz1, hz2⟩ := info_parts infoByteA
  have := run_make (P := Try.prog) w 22 5 i0 (.int .u8 0) Try.underlying22 hi hz0 .i64 .i64 0 560 (by omega) (by omega) (by rw [hz2]; omega) (by omega)
  simpa [hz1, Value.cells] using this
theorem size_ends : (madeCells #[Value.int .u8 0] 560).size = 560 * 1 := by
  rw [← Array.length_toList, toList_madeCells_one, List.length_replicate]
theorem own_ends (w : World) : (w.alloc (.cells (madeCells #[.int .u8 0] 560) 5)).ownsRow w.heap.size 5 1 (.slice (some ⟨w.heap.size, 0, none⟩) 0 560) 0 [] :=
  ⟨rfl, .inr ⟨w.heap.size, 560, _, rfl, Nat.le_refl _, heap_alloc_new _ _, by omega, by decide, by rw [size_ends], rfl⟩⟩
set_option maxRecDepth 100000 in
set_option maxHeartbeats 4000000 in
theorem public_ok (seed : List UInt8) (A : Option Addr) (c i : Nat) (w : World) (hs : Bytes w A 32 c seed) (hix : i ≤ 2147483647) :
    Calls Try.prog 35 #[.slice A 32 c, .int .i64 i] w fun e w' => ∃ A' c', e = .returned (.tuple #[.slice A' 16 c', .int .i64 0]) ∧ Bytes w' A' 16 c' (publicL seed i) ∧ Fresh w.heap.size A' ∧ Below w.heap.size w w' := by
  obtain ⟨i0, hi, hz0, hz1, hz2⟩ := info_parts infoByteA
  have SB := Lib.hid hs
  clear hs
  have hmk := make_ends
  go_enter Try.func35, Try.ntmps35
  go_wp2_with fail
  refine (valid_is (v := 0) (by unfold validE; rw [if_neg (by omega), if_neg (by omega)])).mono ?_
  rintro e wx ⟨rfl, rfl⟩
  go_wp2
  clear hmk
  go_loopw [7, 8, 16] (fun o _ i' wr => ∃ (j m cc : Nat) (AA : Option Addr), j ≤ 35 ∧ o = .slice AA m cc ∧ i' = .int .i64 j ∧ Hid (m = 16 * j) ∧ Hid (wr.ownsRow w.heap.size 5 1 (.slice AA m cc) m ((publicTo seed i j).map byteV)) ∧ Below w.heap.size w wr) (fun _ _ i' _ => 35 - (intOf i').toNat)
  case atStart => exact ⟨0, 0, _, _, by omega, rfl, rfl, rfl, own_ends _, by go_grown⟩
  case round =>
    obtain ⟨j, m, cc, AA, hj, rfl, rfl, hm, HO, hbr⟩ := hrel
    have hsr := hbr.size
    by_cases hj35 : j < 35
    · have hji : (j : Int) < 35 := by omega
      go_wp2_with fail
      refine (begin_any seed _ _ i j _ (SB.out.stays hbr) hix hj35).mono ?_
      rintro e w1 ⟨A1, c1, rfl, hv, hf, hb⟩
      have V1 := Lib.hid hv
      have HO1 := Lib.hid (own_below HO.out hb)
      have R1 : Below w.heap.size w w1 := hbr.trans (hb.mono hsr)
      have hs1 := R1.size
      clear hv hf hb
      go_wp2_with fail
      refine (chain16i _ _ _ 15 15 _ V1.out rfl (by omega)).mono ?_
      rintro e w2 ⟨A2, c2, rfl, hv, hf, hb⟩
      have V2 := Lib.hid hv
      have HO2 := Lib.hid (own_below HO1.out hb)
      have R2 : Below w.heap.size w w2 := R1.trans (hb.mono hs1)
      have hs2 := R2.size
      clear hv hf hb
      go_wp2_with (at_builtin; refine wpList_append_rd rfl _ _ 22 rfl i0 (.int .u8 0) 1 Try.underlying22 hi hz0 hz1 hz2 rfl (by decide) rfl HO2.out rfl V2.out (oneCell_bytes _) ?c1 ?c2 ?c3 ?_)
      case c1 => have := hm.out; unfold maxLen; omega
      case c2 => have := hm.out; omega
      case c3 => omega
      intro A8 c8 w8 hown8 hg8 hb8
      have H8 := Lib.hid hown8
      have hB8 := R2.trans hb8
      clear hown8 hg8 hb8
      go_wp2
      go_roundw
      case rel =>
        refine ⟨j + 1, m + 16, c8, A8, by omega, rfl, by go_num, by have := hm.out; unfold Hid; omega, ?_, hB8⟩
        unfold Hid
        rw [publicTo, List.map_append]
        exact H8.out
      case measure => simp [intOf]; omega
    · obtain rfl : j = 35 := by omega
      have hr : Bytes wr AA m cc (publicTo seed i 35) := own_rd HO.out
      have HR := Lib.hid hr
      clear hr
      go_wp2_with fail
      refine (short_new _ _ _ _ _ HR.out).mono ?_
      rintro e w1 ⟨A1, rfl, hv, hf, hb⟩
      have V1 : Hid (Bytes w1 A1 16 _ (publicL seed i)) := hv
      have F1 := Lib.hid (hf.more (B' := w.heap.size) hsr)
      have R1 := hbr.trans (hb.mono hsr)
      clear hv hf hb
      go_wp2
      go_returns
      exact ⟨_, _, rfl, V1.out, F1.out, R1⟩
set_option maxRecDepth 100000 in
set_option maxHeartbeats 4000000 in
theorem refPublic_ok (seed : List UInt8) (A : Option Addr) (c i : Nat) (w : World) (hs : Bytes w A 32 c seed) (hix : i ≤ 2147483647) :
    Calls Try.prog 36 #[.slice A 32 c, .int .i64 i] w fun e w' => ∃ A' c', e = .returned (.tuple #[.slice A' 16 c', .int .i64 0]) ∧ Bytes w' A' 16 c' (publicL seed i) ∧ Fresh w.heap.size A' ∧ Below w.heap.size w w' := by
  obtain ⟨i0, hi, hz0, hz1, hz2⟩ := info_parts infoByteA
  have SB := Lib.hid hs
  clear hs
  go_enter Try.func36, Try.ntmps36
  go_wp2_with fail
  refine (check_is (v := 0) (by unfold validE; rw [if_neg (by omega), if_neg (by omega)])).mono ?_
  rintro e wx ⟨rfl, rfl⟩
  go_wp2
  go_loopw [7, 8, 9, 10] (fun o i' _ _ wr => ∃ (j m cc : Nat) (AA : Option Addr), j ≤ 35 ∧ o = .slice AA m cc ∧ i' = .int .i64 j ∧ Hid (m = 16 * j) ∧ Hid (wr.ownsRow w.heap.size 5 1 (.slice AA m cc) m ((publicTo seed i j).map byteV)) ∧ Below w.heap.size w wr) (fun _ i' _ _ _ => 35 - (intOf i').toNat)
  case atStart => exact ⟨0, 0, _, _, by omega, rfl, rfl, rfl, World.ownsRow_lit w _ _ (Nat.le_refl _) (by decide) rfl, by go_grown⟩
  case round =>
    obtain ⟨j, m, cc, AA, hj, rfl, rfl, hm, HO, hbr⟩ := hrel
    have hsr := hbr.size
    by_cases hj35 : j < 35
    · have hji : (j : Int) < 35 := by omega
      go_wp2_with fail
      refine (refSecret_ok seed _ _ i j _ (SB.out.stays hbr) hix hj35).mono ?_
      rintro e w1 ⟨A1, c1, rfl, hv, hf, hb⟩
      have V1 := Lib.hid hv
      have HO1 := Lib.hid (own_below HO.out hb)
      have R1 : Below w.heap.size w w1 := hbr.trans (hb.mono hsr)
      have hs1 := R1.size
      clear hv hf hb
      go_wp2_with fail
      refine (refChain16i _ _ _ 15 15 _ V1.out rfl (by omega)).mono ?_
      rintro e w2 ⟨A2, c2, rfl, hv, hf, hb⟩
      have V2 := Lib.hid hv
      have HO2 := Lib.hid (own_below HO1.out hb)
      have R2 : Below w.heap.size w w2 := R1.trans (hb.mono hs1)
      have hs2 := R2.size
      clear hv hf hb
      go_wp2_with (at_builtin; refine wpList_append_rd rfl _ _ 22 rfl i0 (.int .u8 0) 1 Try.underlying22 hi hz0 hz1 hz2 rfl (by decide) rfl HO2.out rfl V2.out (oneCell_bytes _) ?c1 ?c2 ?c3 ?_)
      case c1 => have := hm.out; unfold maxLen; omega
      case c2 => have := hm.out; omega
      case c3 => omega
      intro A8 c8 w8 hown8 hg8 hb8
      have H8 := Lib.hid hown8
      have hB8 := R2.trans hb8
      clear hown8 hg8 hb8
      go_wp2
      go_roundw
      case rel =>
        refine ⟨j + 1, m + 16, c8, A8, by omega, rfl, by go_num, by have := hm.out; unfold Hid; omega, ?_, hB8⟩
        unfold Hid
        rw [publicTo, List.map_append]
        exact H8.out
      case measure => simp [intOf]; omega
    · obtain rfl : j = 35 := by omega
      have hr : Bytes wr AA m cc (publicTo seed i 35) := own_rd HO.out
      have HR := Lib.hid hr
      clear hr
      go_wp2_with fail
      refine (refShort_new _ _ _ _ _ HR.out).mono ?_
      rintro e w1 ⟨A1, c1, rfl, hv, hf, hb⟩
      have V1 : Hid (Bytes w1 A1 16 _ (publicL seed i)) := hv
      have F1 := Lib.hid (hf.more (B' := w.heap.size) hsr)
      have R1 := hbr.trans (hb.mono hsr)
      clear hv hf hb
      go_wp2
      go_returns
      exact ⟨_, _, rfl, V1.out, F1.out, R1⟩
set_option maxRecDepth 100000 in
set_option maxHeartbeats 4000000 in
theorem public_err (A : Option Addr) (n c : Nat) (i v : Int) (w : World) (hv : validE n i = v) (h0 : v ≠ 0) :
    Calls Try.prog 35 #[.slice A n c, .int .i64 i] w fun e w' => e = .returned (.tuple #[.slice none 0 0, .int .i64 v]) ∧ Below w.heap.size w w' := by
  have HV := Lib.hid hv
  have hb : (v == 0) = false := by simpa using h0
  have hb2 : (v != 0) = true := by simp [bne, hb]
  clear hv h0
  go_enter Try.func35, Try.ntmps35
  go_wp2_with fail
  refine (valid_is HV.out).mono ?_
  rintro e wx ⟨rfl, rfl⟩
  go_wp2
  go_returns
  exact ⟨rfl, by go_grown⟩
set_option maxRecDepth 100000 in
set_option maxHeartbeats 4000000 in
theorem refPublic_err (A : Option Addr) (n c : Nat) (i v : Int) (w : World) (hv : validE n i = v) (h0 : v ≠ 0) :
    Calls Try.prog 36 #[.slice A n c, .int .i64 i] w fun e w' => e = .returned (.tuple #[.slice none 0 0, .int .i64 v]) ∧ Below w.heap.size w w' := by
  have HV := Lib.hid hv
  have hb : (v == 0) = false := by simpa using h0
  have hb2 : (v != 0) = true := by simp [bne, hb]
  clear hv h0
  go_enter Try.func36, Try.ntmps36
  go_wp2_with fail
  refine (check_is HV.out).mono ?_
  rintro e wx ⟨rfl, rfl⟩
  go_wp2
  go_returns
  exact ⟨rfl, by go_grown⟩
end Go.Proofs.Ytahphlcahaheiaa
