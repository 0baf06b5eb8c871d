/- sectimeworld: Fields, Padded, AllPadded. -/
import Derived.Test.YtofadjcphaehcaaExtI
namespace Go.Proofs.Ytofadjcphaehcaa
open Go.RowKit

theorem flds_app {w : World} {B n c : Nat} {A : Option Addr} {fs : List (Int × List UInt8)} (h : FldsA w B A n c fs) {gf : Nat} {t : Int} {A1 : Option Addr} {n1 c1 : Nat} {d : List UInt8} (hB : Blk w gf 38 #[.int .i64 t, .slice A1 n1 c1]) (hd : Bytes w A1 n1 c1 d) (ho : Off A1 n1 (Value.slice A n c).ownBlock) (hn : n ≤ 1000) (hz : B ≤ w.heap.size) (ty : TypeId) :
    ∃ v w', (Builtin.append_ #[32, 32] ty #[.slice A n c, .slice (some ⟨gf, 0, none⟩) 1 1]).run Try.prog w = .ok v w' ∧ ∃ A8 c8, v = .slice A8 (n + 1) c8 ∧ FldsA w' B A8 (n + 1) c8 (fs ++ [(t, d)]) ∧ Below B w w' := by
  obtain ⟨i0, hi, hz0, hz1, hz2⟩ := info_parts infoFld
  have hr : Rd w 2 (some ⟨gf, 0, none⟩) 1 1 (encFld (t, d) A1 n1 c1) := by
    refine ⟨rfl, Nat.le_refl _, by decide, fun i u hu => ⟨gf, 0, rfl, ?_⟩⟩
    rw [Nat.zero_add, hB.cell i, ← hu]
    match i with
    | 0 | 1 => rfl
    | i + 2 => rfl
  obtain ⟨A8, c8, w8, hrun, g1, g2, g3⟩ := run_append_items (P := Try.prog) 32 ty i0 _ 32 Try.underlying32 hi hz0 hz1 hz2 rfl (by decide) h (t, d) (by simp [encFld]) hr (by simp [encFld, Value.oneCell']) hd ho (by unfold maxLen; omega) (by omega) hz
  exact ⟨_, w8, hrun, A8, c8, rfl, g1, g3⟩
/-- What Fields makes of a note. -/
def noteF (x : Int × List UInt8) : Int × List UInt8 := (kd4 x.1, x.2.take 60)
def fieldsW (l : List (Int × List UInt8)) : List (Int × List UInt8) := (l.take 4).map noteF
theorem noteF_at (l : List (Int × List UInt8)) (k : Nat) (h : k < l.length) : (l.take (k + 1)).map noteF = (l.take k).map noteF ++ [(kd4 (fldT l k), (fldD l k).take 60)] := by
  rw [take_fld l k h, List.map_append]; rfl
theorem fieldsW_len (l : List (Int × List UInt8)) : (fieldsW l).length ≤ 4 := by unfold fieldsW; rw [List.length_map, List.length_take]; omega
theorem fieldsW_ok (l : List (Int × List UInt8)) : ∀ f ∈ fieldsW l, 0 ≤ f.1 ∧ f.1 ≤ 65535 ∧ f.2.length ≤ 60 ∧ exSz f.2.length ≤ 64 := by
  intro f hf
  unfold fieldsW at hf
  obtain ⟨x, _, rfl⟩ := List.mem_map.1 hf
  have h1 : (noteF x).2.length ≤ 60 := by simp [noteF]; omega
  have h2 := kd4_mem x.1
  refine ⟨?_, ?_, h1, ?_⟩
  · show 0 ≤ kd4 x.1
    rcases h2 with h | h | h | h <;> rw [h] <;> decide
  · show kd4 x.1 ≤ 65535
    rcases h2 with h | h | h | h <;> rw [h] <;> decide
  · unfold exSz; omega
set_option maxRecDepth 100000 in
set_option maxHeartbeats 4000000 in
theorem fields_any2 (A : Option Addr) (n c : Nat) (l : List (Int × List UInt8)) (w : World) (hv : FldL w A n c l) :
    Calls Try.prog 20 #[.slice A n c] w fun e w' => ∃ A' m c', e = .returned (.slice A' m c') ∧ FldL w' A' m c' (fieldsW l) ∧ Below w.heap.size w w' := by
  have hcap := hv.cap
  have hle := hv.le
  have HL := Lib.hid hv.len
  have HV := Lib.hid hv
  clear hv
  obtain ⟨M, hM⟩ : ∃ M, min n 4 = M := ⟨_, rfl⟩
  have HM := Lib.hid hM
  have hM1 : M ≤ 4 := by omega
  have hM2 : M ≤ n := by omega
  have hM3 : n ≤ M ∨ 4 ≤ M := by omega
  clear hM
  go_enter Try.func20, Try.ntmps20
  go_wp2_with fail
  go_loopw [3, 4] (fun s i wr => ∃ (k co : Nat) (AO : Option Addr), k ≤ M ∧ i = .int .i64 k ∧ s = .slice AO k co ∧ Hid (FldsA wr w.heap.size AO k co ((l.take k).map noteF)) ∧ Below w.heap.size w wr) (fun _ i _ => M - (intOf i).toNat)
  case atStart => exact ⟨0, 0, none, Nat.zero_le _, rfl, rfl, OwnItems.nil _ _, Below.refl _ _⟩
  case round =>
    obtain ⟨k, co, AO, hk, rfl, rfl, HO, hbr⟩ := hrel
    have RW := Lib.hid hbr
    have hz_wr := hbr.size
    have kco := HO.out.le
    have coc := HO.out.cap
    by_cases hkM : k < M
    ·
      have hkn : k < n := by omega
      have hki : (k : Int) < (n : Int) := by omega
      have hk4 : (k : Int) < 4 := by omega
      obtain ⟨bb, off, A', n', c', rfl, hc0, hc1, hy⟩ := HV.out.at_ hkn
      have HC0 := Lib.hid hc0
      have HC1 := Lib.hid hc1
      have HY := Lib.hid hy
      have HN := Lib.hid (noteF_at l k (by rw [HL.out]; exact hkn))
      obtain ⟨t, ht⟩ : ∃ t, fldT l k = t := ⟨_, rfl⟩
      obtain ⟨d, hd⟩ : ∃ d, fldD l k = d := ⟨_, rfl⟩
      rw [ht] at HC0 HN
      rw [hd] at HY HN
      clear hc0 hc1 hy ht hd
      go_upto_region 5 with fail
      refine zBegin (Z := []) (S := fun w' => Below w.heap.size w w') (by kernel_rfl) ?pz1 (RW.out.drew) (fun hPQ wd hbd hHeld => ?sz1)
      case pz1 => (repeat (with_reducible first | refine PQ.then ?_ | refine PQ.block ?_)); exact fun _ _ d _ _ h => by cases d <;> exact h
      case sz1 =>
        have HO := HO.out.stays hbd
        clear hbd
        refine zVal (i := 0) (d := (some 15)) (v := ?_) rfl rfl (by kernel_rfl) (by kernel_rfl) (by kernel_rfl) (by kernel_rfl) hPQ (by rfl) (fun wq hSw => ?_) hHeld ?_
        rotate_left 1
        · have cS0 := cell_stays hSw HC0.out; have cS1 := cell_stays hSw HC1.out; go_simp; try with_reducible rfl
        try simp only [Act.put, List.setIfInBounds_toArray, List.set_cons_zero, List.set_cons_succ]
        refine zVal (i := 1) (d := (some 16)) (v := ?_) rfl rfl (by kernel_rfl) (by kernel_rfl) (by kernel_rfl) (by kernel_rfl) hPQ (by rfl) (fun wq hSw => ?_) hHeld ?_
        rotate_left 1
        · have cS0 := cell_stays hSw HC0.out; have cS1 := cell_stays hSw HC1.out; go_simp; try with_reducible rfl
        try simp only [Act.put, List.setIfInBounds_toArray, List.set_cons_zero, List.set_cons_succ]
        refine zVal (i := 2) (d := (some 17)) (v := ?_) rfl rfl (by kernel_rfl) (by kernel_rfl) (by kernel_rfl) (by kernel_rfl) hPQ (by rfl) (fun wq hSw => ?_) hHeld ?_
        rotate_left 1
        · have cS0 := cell_stays hSw HC0.out; have cS1 := cell_stays hSw HC1.out; go_simp; try with_reducible rfl
        try simp only [Act.put, List.setIfInBounds_toArray, List.set_cons_zero, List.set_cons_succ]
        refine zVal (i := 3) (d := (some 18)) (v := ?_) rfl rfl (by kernel_rfl) (by kernel_rfl) (by kernel_rfl) (by kernel_rfl) hPQ (by rfl) (fun wq hSw => ?_) hHeld ?_
        rotate_left 1
        · have cS0 := cell_stays hSw HC0.out; have cS1 := cell_stays hSw HC1.out; go_simp; try with_reducible rfl
        try simp only [Act.put, List.setIfInBounds_toArray, List.set_cons_zero, List.set_cons_succ]
        refine zVal (i := 4) (d := (some 19)) (v := ?_) rfl rfl (by kernel_rfl) (by kernel_rfl) (by kernel_rfl) (by kernel_rfl) hPQ (by rfl) (fun wq hSw => ?_) hHeld ?_
        rotate_left 1
        · have cS0 := cell_stays hSw HC0.out; have cS1 := cell_stays hSw HC1.out; go_simp; try with_reducible rfl
        try simp only [Act.put, List.setIfInBounds_toArray, List.set_cons_zero, List.set_cons_succ]
        refine zVal (i := 5) (d := (some 20)) (v := ?_) rfl rfl (by kernel_rfl) (by kernel_rfl) (by kernel_rfl) (by kernel_rfl) hPQ (by rfl) (fun wq hSw => ?_) hHeld ?_
        rotate_left 1
        · have cS0 := cell_stays hSw HC0.out; have cS1 := cell_stays hSw HC1.out; go_simp; try with_reducible rfl
        try simp only [Act.put, List.setIfInBounds_toArray, List.set_cons_zero, List.set_cons_succ]
        refine zVal (i := 6) (d := (some 21)) (v := ?_) rfl rfl (by kernel_rfl) (by kernel_rfl) (by kernel_rfl) (by kernel_rfl) hPQ (by rfl) (fun wq hSw => ?_) hHeld ?_
        rotate_left 1
        · have cS0 := cell_stays hSw HC0.out; have cS1 := cell_stays hSw HC1.out; go_simp; try with_reducible rfl
        try simp only [Act.put, List.setIfInBounds_toArray, List.set_cons_zero, List.set_cons_succ]
        refine zVal (i := 7) (d := (some 22)) (v := ?_) rfl rfl (by kernel_rfl) (by kernel_rfl) (by kernel_rfl) (by kernel_rfl) hPQ (by rfl) (fun wq hSw => ?_) hHeld ?_
        rotate_left 1
        · have cS0 := cell_stays hSw HC0.out; have cS1 := cell_stays hSw HC1.out; go_simp; try with_reducible rfl
        try simp only [Act.put, List.setIfInBounds_toArray, List.set_cons_zero, List.set_cons_succ]
        refine zVal (i := 8) (d := (some 23)) (v := ?_) rfl rfl (by kernel_rfl) (by kernel_rfl) (by kernel_rfl) (by kernel_rfl) hPQ (by rfl) (fun wq hSw => ?_) hHeld ?_
        rotate_left 1
        · have cS0 := cell_stays hSw HC0.out; have cS1 := cell_stays hSw HC1.out; go_simp; try with_reducible rfl
        try simp only [Act.put, List.setIfInBounds_toArray, List.set_cons_zero, List.set_cons_succ]
        refine zVal (i := 9) (d := (some 24)) (v := ?_) rfl rfl (by kernel_rfl) (by kernel_rfl) (by kernel_rfl) (by kernel_rfl) hPQ (by rfl) (fun wq hSw => ?_) hHeld ?_
        rotate_left 1
        · have cS0 := cell_stays hSw HC0.out; have cS1 := cell_stays hSw HC1.out; go_simp; try with_reducible rfl
        try simp only [Act.put, List.setIfInBounds_toArray, List.set_cons_zero, List.set_cons_succ]
        refine zVal (i := 10) (d := (some 25)) (v := ?_) rfl rfl (by kernel_rfl) (by kernel_rfl) (by kernel_rfl) (by kernel_rfl) hPQ (by rfl) (fun wq hSw => ?_) hHeld ?_
        rotate_left 1
        · have cS0 := cell_stays hSw HC0.out; have cS1 := cell_stays hSw HC1.out; go_simp; try with_reducible rfl
        try simp only [Act.put, List.setIfInBounds_toArray, List.set_cons_zero, List.set_cons_succ]
        refine zAlone (j := 11) (by kernel_rfl) ?_
        refine zOpCall (j := 11) (d := (some 26)) (R := fun v w' => ∃ Ap cp, v = .agg #[.int .i64 (kd4 t), .slice Ap (min n' 60) cp] ∧ Bytes w' Ap (min n' 60) cp (d.take 60) ∧ Fresh wd.heap.size Ap ∧ Below wd.heap.size wd w') rfl rfl (by rfl) ?rz2 ((fieldW_any t A' n' c' d _ (HY.out.stays hHeld)).mono fun e q hq => by obtain ⟨Ap, cp, h1, h2, h3, h4⟩ := hq; exact ⟨_, h1, Ap, cp, rfl, h2, h3, h4⟩) (fun v u1 hRv => ?tz2)
        case rz2 => go_simp
        case tz2 =>
          obtain ⟨AD, cD, rfl, hD, hF, hb1⟩ := hRv
          refine ⟨.inr (hHeld.trans (hb1.mono hHeld.size)), ?_⟩
          try simp only [Act.put, List.setIfInBounds_toArray, List.set_cons_zero, List.set_cons_succ]
          have HOF : Off AD (min n' 60) (Value.slice AO k co).ownBlock := Off.fresh hF HO.lt
          have HO := HO.stays hb1
          have hHeld := hHeld.trans (hb1.mono hHeld.size)
          clear hb1 hF
          obtain ⟨mm, hmm⟩ : ∃ mm, min n' 60 = mm := ⟨_, rfl⟩
          rw [hmm] at hD HOF ⊢
          clear hmm
          refine zAlone (j := 12) (by kernel_rfl) ?_
          refine zOpNew (j := 12) (d := (some 27)) (T := 38) (z := #[.int .i64 (kd4 t), .slice AD mm cD]) (val := fun g => .slice (some ⟨g, 0, none⟩) 1 1) rfl rfl (by rfl) ?rz3 (fun gf u2 gf_ge gf_lt BF hb2 => ⟨.inr (hHeld.trans (hb2.mono hHeld.size)), ?tz3⟩)
          case rz3 => go_simp; try with_reducible rfl
          case tz3 =>
            try simp only [Act.put, List.setIfInBounds_toArray, List.set_cons_zero, List.set_cons_succ]
            have HO := HO.stays hb2
            have hD := hD.stays hb2
            have hHeld := hHeld.trans (hb2.mono hHeld.size)
            refine zAlone (j := 13) (by kernel_rfl) ?_
            refine zOpApp (j := 13) (d := (some 28)) (R := fun v w' => ∃ A8 c8, v = .slice A8 (k + 1) c8 ∧ FldsA w' w.heap.size A8 (k + 1) c8 ((l.take k).map noteF ++ [(kd4 t, d.take 60)]) ∧ Below w.heap.size u2 w') rfl rfl (by rfl) rfl (by rfl) (by rfl) (flds_app HO BF hD HOF (by omega) hHeld.size _) (fun v u3 hRv => ?tz4)
            case tz4 =>
              obtain ⟨A8, c8, rfl, HO8, hb3⟩ := hRv
              refine ⟨.inr (hHeld.trans hb3), ?_⟩
              try simp only [Act.put, List.setIfInBounds_toArray, List.set_cons_zero, List.set_cons_succ]
              have R3 := hHeld.trans hb3
              have O3 : Hid (FldsA u3 w.heap.size A8 (k + 1) c8 ((l.take (k + 1)).map noteF)) := by rw [Hid, HN.out]; exact HO8
              clear hb3 HO8 hHeld hD
              have hHeld := R3
              refine zVal (i := 14) (d := (some 3)) (v := ?_) rfl rfl (by kernel_rfl) (by kernel_rfl) (by kernel_rfl) (by kernel_rfl) hPQ (by rfl) (fun wq hSw => ?_) hHeld ?_
              rotate_left 1
              · have cS0 := cell_stays hSw HC0.out; have cS1 := cell_stays hSw HC1.out; go_simp; try with_reducible rfl
              try simp only [Act.put, List.setIfInBounds_toArray, List.set_cons_zero, List.set_cons_succ]
              refine zDone (by kernel_rfl) ?_ _
              clear hHeld
              go_wp2
              go_roundw
              case rel => exact ⟨k + 1, c8, A8, by omega, by go_num, rfl, O3, R3⟩
              case measure => simp [intOf]; omega
    · obtain rfl : k = M := by omega
      have HE : Hid ((l.take k).map noteF = fieldsW l) := by
        unfold Hid fieldsW
        congr 1
        rcases Nat.le_total n 4 with h | h
        · rw [List.take_of_length_le (by rw [HL.out]; have := HM.out; omega), List.take_of_length_le (by rw [HL.out]; omega)]
        · rw [show k = 4 by have := HM.out; omega]
      have HM0 := Lib.hid (show k = min n 4 from HM.out.symm)
      rcases Nat.lt_or_ge k n with hkn | hkn
      · have hki : (k : Int) < (n : Int) := by omega
        have hk4 : ¬ (k : Int) < 4 := by omega
        go_wp2
        go_ret
        exact ⟨AO, k, co, rfl, by rw [← HE.out]; exact HO.out.flds, RW.out⟩
      · have hki : ¬ (k : Int) < (n : Int) := by omega
        go_wp2
        go_ret
        exact ⟨AO, k, co, rfl, by rw [← HE.out]; exact HO.out.flds, RW.out⟩
end Go.Proofs.Ytofadjcphaehcaa
