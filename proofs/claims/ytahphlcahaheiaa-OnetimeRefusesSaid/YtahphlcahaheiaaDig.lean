/- onetime.Digits -/
import Derived.Test.YtahphlcahaheiaaApp
import Derived.Test.YtahphlcahaheiaaPut
namespace Go.Proofs.Ytahphlcahaheiaa
open Go.RowKit

def numV (n : Nat) : Value := .int .i64 n
def digs (l : List UInt8) : List Nat := l.flatMap fun x => [x.toNat / 16, x.toNat % 16]
def sumD (l : List Nat) : Nat := (l.map (15 - ·)).sum
def tailD (s : Nat) : List Nat := [s / 256 % 16, s / 16 % 16, s % 16]
def allD (l : List UInt8) : List Nat := digs l ++ tailD (sumD (digs l))

theorem infoInt : (Try.prog.info? 3).map (fun i => (i.zero, i.size, i.bytes)) = some (some (.int .i64 0), 1, 8) := by kernel_rfl
theorem make_digits (w : World) : (Instr.makeSlice 23 (.int .i64 0) (.int .i64 35)).run Try.prog w =
    .ok (.slice (some ⟨w.heap.size, 0, none⟩) 0 35) (w.alloc (.cells (madeCells #[.int .i64 0] 35) 3)) := by
  obtain ⟨i0, hi, hz0, hz1, hz2⟩ := info_parts infoInt
  have := run_make (P := Try.prog) w 23 3 i0 (.int .i64 0) Try.underlying23 hi hz0 .i64 .i64 0 35 (by omega) (by omega) (by rw [hz2]; omega) (by omega)
  simpa [hz1, Value.cells] using this

theorem size_made : (madeCells #[Value.int .i64 0] 35).size = 35 * 1 := by
  have := congrArg List.length (toList_madeCells_one (.int .i64 0) 35)
  simpa using this
theorem own_made (w : World) : (w.alloc (.cells (madeCells #[.int .i64 0] 35) 3)).ownsRow w.heap.size 3 1 (.slice (some ⟨w.heap.size, 0, none⟩) 0 35) 0 [] :=
  ⟨rfl, .inr ⟨w.heap.size, 35, _, rfl, Nat.le_refl _, heap_alloc_new _ _, by omega, by decide, by rw [size_made], rfl⟩⟩

theorem i64_and15 (n : Int) : bits .and .i64 n 15 = n % 16 := by
  have h15 : (BitVec.ofInt 64 15).toNat = 2 ^ 4 - 1 := by decide
  have key : (BitVec.ofInt 64 n &&& BitVec.ofInt 64 15).toNat = (n % ((2 ^ 64 : Nat) : Int)).toNat % 2 ^ 4 := by
    rw [BitVec.toNat_and, BitVec.toNat_ofInt, h15, Nat.and_two_pow_sub_one_eq_mod]
  show IntKind.i64.wrap ((BitVec.ofInt 64 n &&& BitVec.ofInt 64 15).toNat : Nat) = n % 16
  rw [key, IntKind.wrap_i64]
  omega
theorem own_stays {w : World} {B e size n : Nat} {v : Value} {xs : List Value} (h : w.ownsRow B e size v n xs) (o : Obj) : (w.alloc o).ownsRow B e size v n xs := h.alloc o
theorem one_rd (w : World) (v : Value) (e : TypeId) : Rd (w.alloc (.cells #[v] e)) 1 (some ⟨w.heap.size, 0, none⟩) 1 1 [v] := by
  refine ⟨rfl, Nat.le_refl _, by decide, fun i u hu => ⟨w.heap.size, 0, rfl, ?_⟩⟩
  match i, hu with
  | 0, hu => simp at hu; subst hu; rw [cell_of_row _ _ _ _ _ (0, 0) (heap_alloc_new _ _)]; rfl
  | i + 1, hu => simp at hu

set_option maxRecDepth 100000 in
set_option maxHeartbeats 2000000 in
theorem digits_any (A : Option Addr) (c : Nat) (l : List UInt8) (w : World) (hv : Bytes w A 16 c l) :
    Calls Try.prog 16 #[.slice A 16 c] w fun e w' => ∃ A' c', e = .returned (.tuple #[.slice A' 35 c', .int .i64 0]) ∧ Rd w' 1 A' 35 c' ((allD l).map numV) ∧ Below w.heap.size w w' := by
  obtain ⟨i0, hi, hz0, hz1, hz2⟩ := info_parts infoInt
  have hcap := hv.cap
  have hle := hv.le
  have hmk := make_digits w
  have HL := Lib.hid hv.len
  have HV := Lib.hid hv
  clear hv
  go_enter Try.func16, Try.ntmps16
  go_wp2
  go_loopw [4, 5, 17] (fun s t i wr => ∃ (k S cc : Nat) (AA : Option Addr), k ≤ 16 ∧ i = .int .i64 k ∧ s = .slice AA (2 * k) cc ∧ t = .int .i64 S ∧ Hid (S = sumD (digs (l.take k))) ∧ S ≤ 30 * k ∧
      wr.ownsRow w.heap.size 3 1 (.slice AA (2 * k) cc) (2 * k) ((digs (l.take k)).map numV) ∧ Below w.heap.size w wr) (fun _ _ i _ => 16 - (intOf i).toNat)
  case atStart => exact ⟨0, 0, _, _, Nat.zero_le _, rfl, rfl, rfl, by simp [Hid, digs, sumD], by omega, own_made w, by go_grown⟩
  case round =>
    obtain ⟨k, S, cc, AA, hk, rfl, rfl, rfl, hS, hSk, hown, hbr⟩ := hrel
    by_cases hkj : k < 16
    · obtain ⟨b, off, rfl, hc⟩ := (HV.out.stays hbr).at_ hkj
      have hb1 := byteAt_lt l k
      have hki : (k : Int) < 16 := by omega
      have hkd : decide ((k : Int) < 16) = true := decide_eq_true hki
      obtain ⟨d0, h0⟩ : ∃ d0 : Nat, (byteAt l k : Int) / 16 = d0 := ⟨byteAt l k / 16, by omega⟩
      obtain ⟨d1, h1⟩ : ∃ d1 : Nat, (byteAt l k : Int) % 16 = d1 := ⟨byteAt l k % 16, by omega⟩
      have h0' : d0 ≤ 15 := by omega
      have h1' : d1 ≤ 15 := by omega
      have HK : Hid (digs (l.take (k + 1)) = digs (l.take k) ++ [d0, d1]) := by
        unfold Hid
        have hkl : k < l.length := by rw [HL.out]; exact hkj
        rw [List.take_succ_eq_append_getElem hkl]
        have e : byteAt l k = (l[k]'hkl).toNat := by simp [byteAt, hkl, List.getD]
        simp only [digs, List.flatMap_append, List.flatMap_cons, List.flatMap_nil, List.append_nil]
        rw [← e]
        congr 1
        simp
        omega
      have x0 : ∀ w : World, (Instr.index 62 (.agg #[.int .i64 (d0 : Int), .int .i64 (d1 : Int)]) (.int .i64 0)).run Try.prog w = .ok (.int .i64 d0) w := fun _ => by kernel_rfl
      have x1 : ∀ w : World, (Instr.index 62 (.agg #[.int .i64 (d0 : Int), .int .i64 (d1 : Int)]) (.int .i64 1)).run Try.prog w = .ok (.int .i64 d1) w := fun _ => by kernel_rfl
      go_wp2
      rw [h1]
      go_loopw [4, 5, 28] (fun s t i wq => ∃ (q S' cc' : Nat) (AA' : Option Addr) (D : List Nat), q ≤ 2 ∧ i = .int .i64 q ∧ s = .slice AA' (2 * k + q) cc' ∧ t = .int .i64 S' ∧ Hid (D = digs (l.take k) ++ [d0, d1].take q) ∧ Hid (S' = sumD D) ∧ S' ≤ 30 * k + 15 * q ∧
        wq.ownsRow w.heap.size 3 1 (.slice AA' (2 * k + q) cc') (2 * k + q) (D.map numV) ∧ Below w.heap.size w wq) (fun _ _ i _ => 2 - (intOf i).toNat)
      case atStart => exact ⟨0, S, _, _, _, by omega, rfl, rfl, rfl, by simp only [Hid, List.take_zero, List.append_nil], hS, by omega, hown, hbr⟩
      case round =>
        obtain ⟨q, S', cc', AA', D, hq, rfl, rfl, rfl, hD, hS', hSq, hownq, hbq⟩ := hrel
        have hbz := hbq.size
        have HO := Lib.hid (fun o => own_stays hownq o)
        have HQ := Lib.hid hownq
        clear hownq hown hbr hc hS
        rcases (by omega : q = 0 ∨ q = 1 ∨ q = 2) with rfl | rfl | rfl
        · go_wp2_with (at_builtin; refine wpList_append_rd rfl _ _ 23 rfl i0 (.int .i64 0) 8 Try.underlying23 hi hz0 hz1 hz2 rfl (by decide) rfl (HO.out _) rfl (one_rd _ _ _) (by simp [Value.oneCell']) ?c1 ?c2 ?c3 ?_)
          case c1 => unfold maxLen; omega
          case c2 => omega
          case c3 => simp; omega
          intro A8 c8 w8 hown8 hg8 hb8
          have H8 := Lib.hid hown8
          clear hown8 hg8
          go_wp2
          go_roundw
          case rel =>
            refine ⟨0 + 1, S' + (15 - d0), _, _, D ++ [d0], by omega, by go_num, rfl, congrArg (Value.int .i64) (by omega), by unfold Hid; rw [hD.out]; simp, by unfold Hid; rw [hS'.out]; simp [sumD], by omega, by simpa [numV] using H8.out, ?_⟩
            exact ((hbq.trans (by go_grown)).trans hb8)
          case measure => simp [intOf]
        · go_wp2_with (at_builtin; refine wpList_append_rd rfl _ _ 23 rfl i0 (.int .i64 0) 8 Try.underlying23 hi hz0 hz1 hz2 rfl (by decide) rfl (HO.out _) rfl (one_rd _ _ _) (by simp [Value.oneCell']) ?c1 ?c2 ?c3 ?_)
          case c1 => unfold maxLen; omega
          case c2 => omega
          case c3 => simp; omega
          intro A8 c8 w8 hown8 hg8 hb8
          have H8 := Lib.hid hown8
          clear hown8 hg8
          go_wp2
          go_roundw
          case rel =>
            refine ⟨1 + 1, S' + (15 - d1), _, _, D ++ [d1], by omega, by go_num, rfl, congrArg (Value.int .i64) (by omega), by unfold Hid; rw [hD.out]; simp, by unfold Hid; rw [hS'.out]; simp [sumD], by omega, by simpa [numV, Nat.add_assoc] using H8.out, ?_⟩
            exact ((hbq.trans (by go_grown)).trans hb8)
          case measure => simp [intOf]
        · go_wp2
          go_roundw
          case rel =>
            refine ⟨k + 1, S', cc', AA', by omega, by go_num, rfl, rfl, by unfold Hid; rw [HK.out, hS'.out, hD.out]; rfl, by omega, ?_, hbq⟩
            have h9 := HQ.out
            rw [hD.out] at h9
            rw [HK.out]
            exact h9
          case measure => simp [intOf]; omega
    · obtain rfl : k = 16 := by omega
      obtain ⟨D, hD⟩ : ∃ D, digs l = D := ⟨_, rfl⟩
      have htk : l.take 16 = l := List.take_of_length_le (by rw [HL.out]; exact Nat.le_refl _)
      rw [htk, hD] at hown
      rw [htk, hD] at hS
      have HD := Lib.hid hD
      clear hD htk
      obtain ⟨t0, a0⟩ : ∃ t : Nat, bits .and .i64 ((S : Int) / 256) 15 = t := ⟨S / 256 % 16, by rw [i64_and15]; omega⟩
      obtain ⟨t1, a1⟩ : ∃ t : Nat, bits .and .i64 ((S : Int) / 16) 15 = t := ⟨S / 16 % 16, by rw [i64_and15]; omega⟩
      obtain ⟨t2, a2⟩ : ∃ t : Nat, bits .and .i64 (S : Int) 15 = t := ⟨S % 16, by rw [i64_and15]; omega⟩
      have HA : Hid (tailD (sumD D) = [t0, t1, t2]) := by
        unfold Hid
        rw [i64_and15] at a0 a1 a2
        rw [← hS.out, tailD, show t0 = S / 256 % 16 by omega, show t1 = S / 16 % 16 by omega, show t2 = S % 16 by omega]
      have hbz := hbr.size
      clear hS
      rw [show ((16 : Nat) : Int) = 16 from rfl]
      go_wp2
      go_loopw [4, 10] (fun s i wq => ∃ (q cc' : Nat) (AA' : Option Addr), q ≤ 3 ∧ i = .int .i64 (2 - (q : Int)) ∧ s = .slice AA' (32 + q) cc' ∧
        wq.ownsRow w.heap.size 3 1 (.slice AA' (32 + q) cc') (32 + q) ((D ++ [t0, t1, t2].take q).map numV) ∧ Below w.heap.size w wq) (fun _ i _ => (intOf i + 1).toNat)
      case atStart => exact ⟨0, _, _, by omega, rfl, rfl, by simpa using hown, hbr⟩
      case round =>
        obtain ⟨q, cc', AA', hq, rfl, rfl, hownq, hbq⟩ := hrel
        have hbz := hbq.size
        have HO := Lib.hid (fun o => own_stays hownq o)
        have HQ := Lib.hid hownq
        clear hownq hown hbr
        rcases (by omega : q = 0 ∨ q = 1 ∨ q = 2 ∨ q = 3) with rfl | rfl | rfl | rfl
        · go_wp2_with (at_builtin; refine wpList_append_rd rfl _ _ 23 rfl i0 (.int .i64 0) 8 Try.underlying23 hi hz0 hz1 hz2 rfl (by decide) rfl (HO.out _) rfl (one_rd _ _ _) (by simp [Value.oneCell']) ?c1 ?c2 ?c3 ?_)
          case c1 => unfold maxLen; omega
          case c2 => omega
          case c3 => simp; omega
          intro A8 c8 w8 hown8 hg8 hb8
          have H8 := Lib.hid hown8
          clear hown8 hg8
          go_wp2
          go_roundw
          case rel =>
            refine ⟨0 + 1, _, _, by omega, by rfl, rfl, by simpa [numV, a0] using H8.out, ?_⟩
            exact ((hbq.trans (by go_grown)).trans hb8)
          case measure => simp [intOf]
        · go_wp2_with (at_builtin; refine wpList_append_rd rfl _ _ 23 rfl i0 (.int .i64 0) 8 Try.underlying23 hi hz0 hz1 hz2 rfl (by decide) rfl (HO.out _) rfl (one_rd _ _ _) (by simp [Value.oneCell']) ?c1 ?c2 ?c3 ?_)
          case c1 => unfold maxLen; omega
          case c2 => omega
          case c3 => simp; omega
          intro A8 c8 w8 hown8 hg8 hb8
          have H8 := Lib.hid hown8
          clear hown8 hg8
          go_wp2
          go_roundw
          case rel =>
            refine ⟨1 + 1, _, _, by omega, by rfl, rfl, by simpa [numV, a1] using H8.out, ?_⟩
            exact ((hbq.trans (by go_grown)).trans hb8)
          case measure => simp [intOf]
        · go_wp2_with (at_builtin; refine wpList_append_rd rfl _ _ 23 rfl i0 (.int .i64 0) 8 Try.underlying23 hi hz0 hz1 hz2 rfl (by decide) rfl (HO.out _) rfl (one_rd _ _ _) (by simp [Value.oneCell']) ?c1 ?c2 ?c3 ?_)
          case c1 => unfold maxLen; omega
          case c2 => omega
          case c3 => simp; omega
          intro A8 c8 w8 hown8 hg8 hb8
          have H8 := Lib.hid hown8
          clear hown8 hg8
          go_wp2
          go_roundw
          case rel =>
            refine ⟨2 + 1, _, _, by omega, by rfl, rfl, by simpa [numV, a2] using H8.out, ?_⟩
            exact ((hbq.trans (by go_grown)).trans hb8)
          case measure => simp [intOf]
        · go_wp2
          have h9 := own_rd HQ.out
          have hfin : D ++ [t0, t1, t2].take 3 = allD l := by
            rw [allD, HD.out, HA.out]; rfl
          rw [hfin] at h9
          have H9 := Lib.hid h9
          clear h9 hfin HQ HO
          go_returns
          exact ⟨AA', cc', rfl, H9.out, hbq⟩
end Go.Proofs.Ytahphlcahaheiaa
