/- hash: Sum, Short, Chain. -/
import Derived.Test.YtahphlcahaheiaaFin
import Derived.Test.YtahphlcahaheiaaClone
namespace Go.Proofs.Ytahphlcahaheiaa
open Go.RowKit

theorem first_lit : stA firstS = #[.int .u32 1779033703, .int .u32 3144134277, .int .u32 1013904242, .int .u32 2773480762, .int .u32 1359893119, .int .u32 2600822924, .int .u32 528734635, .int .u32 1541459225] := rfl
set_option maxRecDepth 100000 in
set_option maxHeartbeats 4000000 in
theorem sum_any (l : List UInt8) (Ab : Option Addr) (n cb : Nat) (w : World) (hb : Bytes w Ab n cb l) :
    Calls Try.prog 68 #[.slice Ab n cb] w fun e w' => ∃ A' c', e = .returned (.slice A' 32 c') ∧ w'.ownsRow w.heap.size 5 1 (.slice A' 32 c') 32 ((sumL l).map byteV) ∧ Below w.heap.size w w' := by
  have cb1 := hb.le
  have cb2 := hb.cap
  have HL := Lib.hid hb.len
  have HB := Lib.hid hb
  clear hb
  go_enter Try.func68, Try.ntmps68
  go_wp2_with fail
  refine (first_any _).mono ?_
  rintro e w1 ⟨rfl, hb1⟩
  rw [first_lit]
  have hs1 := hb1.size
  have R1 := Lib.hid hb1
  clear hb1
  have HB1 := Lib.hid (HB.out.stays R1.out)
  have hne : n ≠ 0 → ∀ x, Ab = some x → x.block ≠ w1.heap.size := by
    intro h0 x hx
    obtain ⟨b, off, e, hc⟩ := HB1.out.at_ (i := 0) (by omega)
    rw [hx] at e
    cases e
    have := World.block_lt_of_cell? w1 _ hc
    simp at this ⊢
    omega
  have HNE := Lib.hid hne
  clear hne HB
  go_wp2_with fail
  have hB1 := Blk.new w1 101 (stA firstS)
  rw [first_lit] at hB1
  refine (whole_any firstS l _ _ _ _ _ hB1 (HB1.out.stays (by go_grown)) HNE.out).mono ?_
  rintro e w2 ⟨A2, c2, rfl, hv2, hk2, hg2⟩
  have RB : Below w1.heap.size w1 (w1.alloc (.cells (stA firstS) 101)) := by go_grown
  have R2 : Below w1.heap.size w1 w2 := RB.grown hg2 (by simp) (by intro k hk; cases hk; exact Nat.le_refl _)
  have R3 := R1.out.trans (R2.mono hs1)
  have hs3 := R3.size
  have HV := Lib.hid hv2
  have hS : Hid (sumL l = finL (blocksL firstS l (n / 64)) (l.drop (64 * (n / 64))) n) := by unfold Hid; rw [sumL, wholeS, restL, HL.out]
  have hTi := blocks_in first_in l (n / 64)
  generalize blocksL firstS l (n / 64) = T at *
  have HTI := Lib.hid hTi
  obtain ⟨a0, a1, a2, a3, a4, a5, a6, a7⟩ := blk8 hk2
  clear hB1 hv2 hk2 hg2 RB R2 hTi
  go_wp2_with fail
  refine (finish_any T HTI.out _ _ _ _ n _ HV.out (by omega) (by omega)).mono ?_
  rintro e w4 ⟨A4, c4, rfl, hv4, hb4⟩
  have HO := Lib.hid (own_more (B' := w.heap.size) hv4 (by omega))
  have R5 := R3.trans (hb4.mono hs3)
  clear hv4 hb4 a0 a1 a2 a3 a4 a5 a6 a7
  go_wp2
  go_ret
  exact ⟨_, _, rfl, by rw [hS.out]; exact HO.out, R5⟩

set_option maxRecDepth 100000 in
set_option maxHeartbeats 4000000 in
theorem short_any (l : List UInt8) (Ab : Option Addr) (n cb : Nat) (w : World) (hb : Bytes w Ab n cb l) :
    Calls Try.prog 60 #[.slice Ab n cb] w fun e w' => ∃ A', e = .returned (.slice A' 16 16) ∧ Bytes w' A' 16 16 (shortL l) ∧ Below w.heap.size w w' := by
  have HB := Lib.hid hb
  clear hb
  go_enter Try.func60, Try.ntmps60
  go_wp2_with fail
  refine (sum_any _ _ _ _ _ HB.out).mono ?_
  rintro e w1 ⟨A1, c1, rfl, hv1, hb1⟩
  have hr : Bytes w1 A1 32 c1 (sumL l) := own_rd hv1
  have h1 := hr.le
  have h2 := hr.cap
  have hcut := hr.cut 0 16 (by omega) (by omega)
  obtain ⟨b, off, rfl, _⟩ := hr.at_ (i := 0) (by omega)
  rw [if_neg (by omega)] at hcut
  simp only [Option.map_some, add_off, Nat.add_zero, Nat.sub_zero, List.drop_zero] at hcut
  have HC : Hid (Bytes w1 (some ⟨b, off, none⟩) 16 16 (shortL l)) := ⟨hcut.1, Nat.le_refl _, by decide, hcut.2.2.2⟩
  clear hcut hv1 hr
  go_wp2
  go_ret
  exact ⟨_, rfl, HC.out, hb1⟩

set_option maxRecDepth 100000 in
set_option maxHeartbeats 4000000 in
theorem chain_any (l : List UInt8) (Ab : Option Addr) (n cb : Nat) (k : Int) (w : World) (hb : Bytes w Ab n cb l) (hn : n ≤ 100000000000) :
    Calls Try.prog 29 #[.slice Ab n cb, .int .i64 k] w fun e w' => ∃ A' m c', e = .returned (.slice A' m c') ∧ Bytes w' A' m c' (chainL l (min k.toNat 65536)) ∧ Below w.heap.size w w' := by
  have HL := Lib.hid hb.len
  have HB := Lib.hid hb
  have cb1 := hb.le
  have cb2 := hb.cap
  clear hb
  obtain ⟨K, hK⟩ : ∃ K, min k.toNat 65536 = K := ⟨_, rfl⟩
  rw [hK]
  go_enter Try.func29, Try.ntmps29
  go_wp2_with fail
  refine (clone_any _ _ _ _ _ HB.out (by omega)).mono ?_
  rintro e w1 ⟨A1, c1, rfl, hv1, hb1⟩
  have hR1 : Bytes w1 A1 n c1 l := own_rd hv1
  have HR := Lib.hid hR1
  have R1 : Below w.heap.size w w1 := hb1
  have hs1 := R1.size
  clear hv1 hb1 hR1
  go_wp2
  all_goals
    go_loopw [5, 11] (fun o i wz => ∃ (j m cc : Nat) (AA : Option Addr), j ≤ K ∧ o = .slice AA m cc ∧ i = .int .i64 j ∧ Hid (Bytes wz AA m cc (chainL l j)) ∧ Below w.heap.size w wz) (fun _ i _ => K - (intOf i).toNat)
    case atStart => exact ⟨0, n, c1, A1, by omega, rfl, rfl, HR, R1⟩
    case round =>
      clear HR
      obtain ⟨j, m, cc, AA, hj, rfl, rfl, HR, hbz⟩ := hrel
      have hz := hbz.size
      by_cases hjK : j < K
      · first
          | (exfalso; omega)
          | (have q1 : (j : Int) < k := by omega
             have q2 : (j : Int) < 65536 := by omega
             go_wp2_with fail
             refine (short_any _ _ _ _ _ HR.out).mono ?_
             rintro e w6 ⟨A6, rfl, hv6, hb6⟩
             have HV6 := Lib.hid hv6
             have hB6 := hbz.trans (hb6.mono hz)
             clear hv6 hb6 HR
             go_wp2
             go_roundw
             case rel => exact ⟨j + 1, 16, 16, A6, by omega, rfl, by go_num, HV6, hB6⟩
             case measure => simp [intOf]; omega)
      · obtain rfl : j = K := by omega
        first
          | have q1 : ¬ (j : Int) < 0 ∧ j = 0 := by omega
          | have q1 : ¬ (j : Int) < 65536 := by omega
          | have q1 : ¬ (j : Int) < k := by omega
        go_wp2
        go_ret
        first
          | exact ⟨_, _, _, rfl, HR.out, hbz⟩
          | (have e0 : j = 0 := by omega
             rw [e0] at HR
             exact ⟨_, _, _, rfl, HR.out, hbz⟩)
end Go.Proofs.Ytahphlcahaheiaa
