/- hash.Valid, More, End and SameState at any state. -/
import Derived.Test.YticknkaohjkjpaaMore
namespace Go.Proofs.Yticknkaohjkjpaa
open Go.RowKit

/-- Is it a computation? -/
def vldH (nw : Nat) (n : Int) (m : Nat) : Bool := decide (nw = 8 ∧ 0 ≤ n ∧ n ≤ 1099511627776 ∧ (m : Int) = n % 64)
theorem vldH_ok {nw : Nat} {n : Int} {m : Nat} (h : vldH nw n m = true) : nw = 8 ∧ 0 ≤ n ∧ n ≤ 1099511627776 ∧ (m : Int) = n % 64 := of_decide_eq_true h
set_option maxHeartbeats 1000000 in
theorem validH_any (Aw : Option Addr) (nw cw : Nat) (Ar : Option Addr) (m cr : Nat) (n : Int) (w : World) (hq : nw ≤ 100) (hm : m ≤ 1000) :
    Calls Try.prog 41 #[.agg #[.slice Aw nw cw, .slice Ar m cr, .int .i64 n]] w fun e w' => e = .returned (.bool (vldH nw n m)) ∧ Below w.heap.size w w' := by
  by_cases c1 : nw = 8
  · subst c1
    by_cases c2 : 0 ≤ n
    · by_cases c3 : n ≤ 1099511627776
      · obtain ⟨k, hk⟩ : ∃ k : Nat, n % 64 = (k : Int) := ⟨(n % 64).toNat, by omega⟩
        have hv : vldH 8 n m = decide (m = k) := by unfold vldH; rw [decide_eq_decide]; omega
        have HV := Lib.hid hv
        have c4 : n.tmod 64 = (k : Int) := by rw [Int.tmod_eq_emod_of_nonneg c2]; exact hk
        clear hv
        by_cases c5 : m = k
        · subst c5
          have HT : Hid (vldH 8 n m = true) := by unfold Hid; rw [HV.out]; simp
          go_enter Try.func41, Try.ntmps41
          go_wp2
          go_ret
          exact ⟨by rw [HT.out]; rfl, by go_grown⟩
        · have HT : Hid (vldH 8 n m = false) := by unfold Hid; rw [HV.out]; simp [c5]
          have c6 : ((m : Int) == (k : Int)) = false := by simp; omega
          clear c5
          go_enter Try.func41, Try.ntmps41
          go_wp2
          go_ret
          exact ⟨by rw [HT.out]; rfl, by go_grown⟩
      · have HT : Hid (vldH 8 n m = false) := by unfold Hid vldH; simp; omega
        go_enter Try.func41, Try.ntmps41
        go_wp2
        go_ret
        exact ⟨by rw [HT.out]; rfl, by go_grown⟩
    · have HT : Hid (vldH 8 n m = false) := by unfold Hid vldH; simp; omega
      go_enter Try.func41, Try.ntmps41
      go_wp2
      go_ret
      exact ⟨by rw [HT.out]; rfl, by go_grown⟩
  · have HT : Hid (vldH nw n m = false) := by unfold Hid vldH; simp; omega
    have hb : ((nw : Int) == 8) = false := by simp; omega
    have hb2 : ((nw : Int) != 8) = true := by simp; omega
    clear c1
    go_enter Try.func41, Try.ntmps41
    go_wp2
    go_ret
    exact ⟨by rw [HT.out]; rfl, by go_grown⟩
set_option maxHeartbeats 1000000 in
theorem more_bad (Aw : Option Addr) (nw cw : Nat) (Ar : Option Addr) (m cr : Nat) (n : Int) (Ab : Option Addr) (nb cb : Nat) (w : World) (hq : nw ≤ 100) (hm : m ≤ 1000) (hv : vldH nw n m = false) :
    Calls Try.prog 37 #[.agg #[.slice Aw nw cw, .slice Ar m cr, .int .i64 n], .slice Ab nb cb] w fun e w' => e = .returned (.tuple #[.agg #[.slice none 0 0, .slice none 0 0, .int .i64 0], .int .i64 3]) ∧ Below w.heap.size w w' := by
  have HV := Lib.hid hv
  clear hv
  go_enter Try.func37, Try.ntmps37
  go_wp2_with fail
  refine (validH_any _ _ _ _ _ _ _ _ hq hm).mono ?_
  rintro e w1 ⟨rfl, hb1⟩
  rw [HV.out]
  have R1 : Below w.heap.size w w1 := below_via (by go_grown) hb1 (by simp; omega)
  have B1 := Lib.hid (show Blk w1 (w.heap.size + 1) 47 #[.slice none 0 0, .slice none 0 0, .int .i64 0] by
    have := (Blk.new (w.alloc (.cells #[.slice Aw nw cw, .slice Ar m cr, .int .i64 n] 47)) 47 #[.slice none 0 0, .slice none 0 0, .int .i64 0]).stays hb1
    simpa using this)
  have c0 := B1.out.cell 0
  have c1 := B1.out.cell 1
  have c2 := B1.out.cell 2
  have f0 := B1.out.frozen 0
  have f1 := B1.out.frozen 1
  have f2 := B1.out.frozen 2
  have hz := B1.out.lt
  simp only [List.getElem?_toArray, List.getElem?_cons_zero, List.getElem?_cons_succ] at c0 c1 c2
  clear hb1
  go_wp2_with fail
  refine bodyPost_ret (results_hs2 (r := 4) (t := 5) rfl _ rfl (store_hs B1.out)) rfl ⟨rfl, by go_grown⟩
set_option maxHeartbeats 1000000 in
theorem end_bad (Aw : Option Addr) (nw cw : Nat) (Ar : Option Addr) (m cr : Nat) (n : Int) (w : World) (hq : nw ≤ 100) (hm : m ≤ 1000) (hv : vldH nw n m = false) :
    Calls Try.prog 39 #[.agg #[.slice Aw nw cw, .slice Ar m cr, .int .i64 n]] w fun e w' => e = .returned (.tuple #[.slice none 0 0, .int .i64 3]) ∧ Below w.heap.size w w' := by
  have HV := Lib.hid hv
  clear hv
  go_enter Try.func39, Try.ntmps39
  go_wp2_with fail
  refine (validH_any _ _ _ _ _ _ _ _ hq hm).mono ?_
  rintro e w1 ⟨rfl, hb1⟩
  rw [HV.out]
  have R1 : Below w.heap.size w w1 := below_via (by go_grown) hb1 (by simp)
  clear hb1
  go_wp2
  go_returns
  exact ⟨rfl, R1⟩
set_option maxRecDepth 100000 in
set_option maxHeartbeats 2000000 in
theorem more_go (S : St) (r b : List UInt8) (Aw : Option Addr) (cw : Nat) (Ar : Option Addr) (cr n m : Nat) (Ab : Option Addr) (nb cb : Nat) (w : World) (hm : n % 64 = m) (hnb : nb ≤ 100000) (hcnt0 : n + nb ≤ 1099511627776)
    (hw : Words w Aw 8 cw (stL S)) (hr : Bytes w Ar m cr r) (hb : Bytes w Ab nb cb b) :
    Calls Try.prog 37 #[.agg #[.slice Aw 8 cw, .slice Ar m cr, .int .i64 n], .slice Ab nb cb] w fun e w' => ∃ Aw' cw' Ar' cr', e = .returned (.tuple #[.agg #[.slice Aw' 8 cw', .slice Ar' ((n + nb) % 64) cr', .int .i64 ((n : Int) + (nb : Int))], .int .i64 0]) ∧
      Words w' Aw' 8 cw' (stL (blocksL S (r ++ b) ((m + nb) / 64))) ∧ Bytes w' Ar' ((n + nb) % 64) cr' ((r ++ b).drop (64 * ((m + nb) / 64))) ∧ (∀ x, Aw' = some x → w.heap.size ≤ x.block) ∧ (∀ x, Ar' = some x → w.heap.size ≤ x.block) ∧ Below w.heap.size w w' := by
  have HW := Lib.hid hw
  have HR := Lib.hid hr
  have HB := Lib.hid hb
  have q1 := hw.le
  have q2 := hw.cap
  have q3 := hr.le
  have q4 := hr.cap
  have q5 := hb.le
  have q6 := hb.cap
  have HM := Lib.hid hm
  clear hw hr hb hm
  go_enter Try.func37, Try.ntmps37
  go_wp2_with fail
  refine (valid_ok _ _ _ _ n m _ HM.out (by omega)).mono ?_
  rintro e w1 ⟨rfl, hb1⟩
  have R1 : Below w.heap.size w w1 := below_via (by go_grown) hb1 (by simp; omega)
  have B0 := Lib.hid (((Blk.new w 47 #[.slice Aw 8 cw, .slice Ar m cr, .int .i64 n]).stays ((Below.refl _ _).alloc (Nat.le_refl _) (.cells #[.slice none 0 0, .slice none 0 0, .int .i64 0] 47))).stays hb1)
  have B1 := Lib.hid (show Blk w1 (w.heap.size + 1) 47 #[.slice none 0 0, .slice none 0 0, .int .i64 0] by
    have := (Blk.new (w.alloc (.cells #[.slice Aw 8 cw, .slice Ar m cr, .int .i64 n] 47)) 47 #[.slice none 0 0, .slice none 0 0, .int .i64 0]).stays hb1
    simpa using this)
  have hs1 : w.heap.size + 1 < w1.heap.size := B1.out.lt
  have hs1a : w.heap.size < w1.heap.size := by omega
  have HW := Lib.hid (HW.out.stays R1)
  have HR := Lib.hid (HR.out.stays R1)
  have HB := Lib.hid (HB.out.stays R1)
  clear hb1
  obtain ⟨bw, ow, rfl, a0, a1, a2, a3, a4, a5, a6, a7⟩ := words8 HW.out
  have c0 := B0.out.cell 0
  have c1 := B0.out.cell 1
  have c2 := B0.out.cell 2
  simp only [List.getElem?_toArray, List.getElem?_cons_zero, List.getElem?_cons_succ] at c0 c1 c2
  have hat := fun (W : World) => run_arrayAt (P := Try.prog) W 61 59 8 (some ⟨bw, ow, none⟩) 8 cw Try.underlying61 (Nat.le_refl _)
  have hm64 : m < 64 := by have := HM.out; omega
  have hcnt : (n : Int) + (nb : Int) ≤ 1099511627776 := by omega
  have hlr : (r ++ b).length = m + nb := by rw [List.length_append, HR.out.len, HB.out.len]
  have HLR := Lib.hid hlr
  have hmod : Hid ((m + nb) % 64 = (n + nb) % 64) := by have := HM.out; unfold Hid; omega
  clear hlr
  have k1 : Below w1.heap.size w1 (w1.alloc (.cells (stA S) 61)) := (Below.refl _ _).alloc (Nat.le_refl _) _
  have hL := lists_made2 (E := 22) (HR.out.stays k1) (HB.out.stays k1)
  rw [show (w1.alloc (.cells (stA S) 61)).heap.size = w1.heap.size + 1 by simp] at hL
  have HLL := Lib.hid hL
  clear hL k1
  go_wp2_with fail
  clear a0 a1 a2 a3 a4 a5 a6 a7 c0 c1 c2 hat
  refine (concat_any _ _ _ [r, b] _ HLL.out (m + nb) (by rw [List.flatten_cons, List.flatten_cons, List.flatten_nil, List.append_nil, HLR.out]) (by omega)).mono ?_
  rintro e w2 ⟨A2, cc2, rfl, hv2, hb2⟩
  have hbx : Below w1.heap.size w1 w2 := below_via (by go_grown) hb2 (by first | (simp; done) | (simp; omega))
  have R2 := R1.trans (hbx.mono (by omega))
  have B0 := Lib.hid (B0.out.stays hbx)
  have B1 := Lib.hid (B1.out.stays hbx)
  have B2 : Hid (Blk w2 w1.heap.size 61 (stA S)) := ((Blk.new w1 61 (stA S)).stays ((Below.refl _ _).alloc (Nat.le_refl _) (.cells #[.slice Ar m cr, .slice Ab nb cb] 22))).stays hb2
  have V2 : Hid (Bytes w2 A2 (m + nb) cc2 (r ++ b)) := by
    have := own_rd hv2
    simpa [Hid, Bytes] using this
  have hs2 := R2.size
  have hs12 := hbx.size
  have HNE : Hid (m + nb ≠ 0 → ∀ x, A2 = some x → x.block ≠ w1.heap.size) := by
    intro _ x hx
    subst hx
    have := (hv2.lt x.block rfl).1
    simp at this
    omega
  clear hv2 hb2 hbx HLL
  go_wp2_with fail
  refine (whole_any S _ _ _ _ _ _ B2.out V2.out HNE.out).mono ?_
  rintro e w3 ⟨A3, c3, rfl, hv3, hk3, hg3⟩
  rw [hmod.out] at hv3 ⊢
  have R3 : Below w.heap.size w w3 := R2.grown hg3 hs2 (by intro k hk; cases hk; omega)
  have B0 := Lib.hid (B0.out.grown hg3 (by intro h; injection h with h; omega))
  have B1 := Lib.hid (B1.out.grown hg3 (by intro h; injection h with h; omega))
  have V3 := Lib.hid hv3
  have B2 := Lib.hid hk3
  have hs3 := hg3.size
  have hs3' := R3.size
  have hz1 : w.heap.size + 1 < w3.heap.size := by omega
  have hz0 : w.heap.size < w3.heap.size := by omega
  have hz2 : w1.heap.size < w3.heap.size := B2.out.lt
  have c2 := B0.out.cell 2
  have d0 := B1.out.cell 0
  have d1 := B1.out.cell 1
  have d2 := B1.out.cell 2
  have f0 := B1.out.frozen 0
  have f1 := B1.out.frozen 1
  have f2 := B1.out.frozen 2
  simp only [List.getElem?_toArray, List.getElem?_cons_zero, List.getElem?_cons_succ] at c2 d0 d1 d2
  have q7 := hv3.le
  have q8 := hv3.cap
  clear hv3 hk3 hg3 HNE HLR V2 HW HR HB
  have hwr : IntKind.i64.wrap ((n : Int) + (nb : Int)) = (n : Int) + (nb : Int) := IntWalk.i64_in _ (by omega)
  go_wp2_with fail
  go_region_held3 (fun w' => w'.cell? ⟨w.heap.size, 2, none⟩ = some (.int .i64 n))
    (go_keep)
    (first
      | (go_at_call 56; refine (clone_any _ _ _ _ _ (V3.out.stays (by go_grown)) (by omega)).mono ?_; rintro e w4 ⟨A4, c4, rfl, hv4, hb4⟩; have hb5 : Below w3.heap.size w3 w4 := below_via (by go_grown) hb4 (by simp); have z2 := cell_stays hb5 c2; have y0 := cell_stays hb5 d0; have y1 := cell_stays hb5 d1; have y2 := cell_stays hb5 d2; have g0 := (hb5.frozen (p := ⟨w.heap.size + 1, 0, none⟩) hz1).trans f0; have g1 := (hb5.frozen (p := ⟨w.heap.size + 1, 1, none⟩) hz1).trans f1; have g2 := (hb5.frozen (p := ⟨w.heap.size + 1, 2, none⟩) hz1).trans f2; have V4 := Lib.hid hv4; have HB5 := Lib.hid hb5; clear hv4 hb4 hb5))
  all_goals
    have R4 : Below w.heap.size w w4 := R3.trans (HB5.out.mono hs3')
    have B14 := Lib.hid (B1.out.stays HB5.out)
    have B24 := Lib.hid (B2.out.stays HB5.out)
    go_wp2_with fail
    refine bodyPost_ret (results_hs2 (r := 4) (t := 5) rfl _ rfl (store_hs B14.out)) rfl ⟨_, _, _, _, rfl, ?_, ?_, ?_, ?_, by go_grown⟩
    · exact words_blk (((B24.out.far (by simp; omega) _).far (by simp; omega) _).far (by simp; omega) _)
    · refine Bytes.grown (g := w.heap.size + 1) (own_rd V4.out) (grown_put (grown_put (grown_put (World.grownBy.refl _ _) 0 _) 1 _) 2 _) ?_
      intro x hx h
      subst hx
      have := (V4.out.lt x.block rfl).1
      first | omega | (simp at this; omega)
    · intro x hx
      cases hx
      show w.heap.size ≤ w1.heap.size
      omega
    · intro x hx
      subst hx
      have := (V4.out.lt x.block rfl).1
      first | omega | (simp at this; omega)
set_option maxRecDepth 100000 in
set_option maxHeartbeats 2000000 in
theorem end_go (S : St) (hS : InS S) (r : List UInt8) (Aw : Option Addr) (cw : Nat) (Ar : Option Addr) (cr n m : Nat) (w : World) (hm : n % 64 = m) (hn : n ≤ 1099511627776)
    (hw : Words w Aw 8 cw (stL S)) (hr : Bytes w Ar m cr r) :
    Calls Try.prog 39 #[.agg #[.slice Aw 8 cw, .slice Ar m cr, .int .i64 n]] w fun e w' => ∃ A' c', e = .returned (.tuple #[.slice A' 32 c', .int .i64 0]) ∧ Bytes w' A' 32 c' (finL S r n) ∧ Below w.heap.size w w' := by
  have HW := Lib.hid hw
  have HR := Lib.hid hr
  have q1 := hw.le
  have q2 := hw.cap
  have q3 := hr.le
  have q4 := hr.cap
  have HM := Lib.hid hm
  have hm64 : m < 64 := by omega
  clear hw hr hm
  go_enter Try.func39, Try.ntmps39
  go_wp2_with fail
  refine (valid_ok _ _ _ _ n m _ HM.out (by omega)).mono ?_
  rintro e w1 ⟨rfl, hb1⟩
  have R1 : Below w.heap.size w w1 := below_via (by go_grown) hb1 (by simp)
  have B0 := Lib.hid ((Blk.new w 47 #[.slice Aw 8 cw, .slice Ar m cr, .int .i64 n]).stays hb1)
  have hs1 : w.heap.size < w1.heap.size := B0.out.lt
  have HW := Lib.hid (HW.out.stays R1)
  have HR := Lib.hid (HR.out.stays R1)
  clear hb1
  obtain ⟨bw, ow, rfl, a0, a1, a2, a3, a4, a5, a6, a7⟩ := words8 HW.out
  have c0 := B0.out.cell 0
  have c1 := B0.out.cell 1
  have c2 := B0.out.cell 2
  simp only [List.getElem?_toArray, List.getElem?_cons_zero, List.getElem?_cons_succ] at c0 c1 c2
  have hat := fun (W : World) => run_arrayAt (P := Try.prog) W 61 59 8 (some ⟨bw, ow, none⟩) 8 cw Try.underlying61 (Nat.le_refl _)
  have hin := Lib.hid hS
  clear hS
  go_wp2_with fail
  refine region_tail 8 (by kernel_rfl) (by kernel_rfl) ?_
  simp only [List.take_succ_cons, List.take_zero, List.drop_succ_cons, List.drop_zero]
  repeat still_step
  refine wpStill_nil ?_
  go_wp2_with fail
  have kd : Below w1.heap.size w1 w1.drew := (Below.refl _ _).drew
  refine (finish_any S hin.out _ _ _ _ n _ (HR.out.stays kd) hm64 (by omega)).mono ?_
  rintro e w2 ⟨A2, c2', rfl, hv, hb⟩
  have V2 : Hid (Bytes w2 A2 32 c2' (finL S r n)) := own_rd hv
  have R2 := R1.trans ((kd.trans hb).mono (by omega))
  clear hv hb a0 a1 a2 a3 a4 a5 a6 a7 c0 c1 c2 hat
  go_wp2
  go_returns
  exact ⟨_, _, rfl, V2.out, R2⟩
/-- Two states of the same bytes are alike. -/
theorem sameState_go (S : St) (r : List UInt8) (Aw : Option Addr) (cw : Nat) (Ar : Option Addr) (cr n m : Nat) (Aw2 : Option Addr) (cw2 : Nat) (Ar2 : Option Addr) (cr2 : Nat) (w : World) (hw : Words w Aw 8 cw (stL (S))) (hr : Bytes w Ar m cr (r)) (hw2 : Words w Aw2 8 cw2 (stL (S))) (hr2 : Bytes w Ar2 m cr2 (r)) :
    Calls Try.prog 43 #[.agg #[.slice Aw 8 cw, .slice Ar m cr, .int .i64 n], .agg #[.slice Aw2 8 cw2, .slice Ar2 m cr2, .int .i64 n]] w fun e w' => e = .returned (.bool true) ∧ Below w.heap.size w w' := by
  have HW := Lib.hid hw
  have HR := Lib.hid hr
  have HW2 := Lib.hid hw2
  have HR2 := Lib.hid hr2
  have q1 := hw.le
  have q2 := hw.cap
  have q3 := hw2.le
  have q4 := hw2.cap
  obtain ⟨bw, ow, rfl, _⟩ := hw.at_ (i := 0) (by omega)
  obtain ⟨bw2, ow2, rfl, _⟩ := hw2.at_ (i := 0) (by omega)
  clear hw hr hw2 hr2
  go_enter Try.func43, Try.ntmps43
  go_wp2_with fail
  refine (refSame_true (HR.out.stays (by go_grown)) (HR2.out.stays (by go_grown)) rfl).mono ?_
  rintro e w1 ⟨rfl, rfl⟩
  have B0 : Blk ((w.alloc (.cells #[.slice (some ⟨bw, ow, none⟩) 8 cw, .slice Ar m cr, .int .i64 n] 47)).alloc (.cells #[.slice (some ⟨bw2, ow2, none⟩) 8 cw2, .slice Ar2 m cr2, .int .i64 n] 47)) w.heap.size 47 #[.slice (some ⟨bw, ow, none⟩) 8 cw, .slice Ar m cr, .int .i64 n] := (Blk.new w _ _).stays ((Below.refl _ _).alloc (Nat.le_refl _) _)
  have B1 : Blk ((w.alloc (.cells #[.slice (some ⟨bw, ow, none⟩) 8 cw, .slice Ar m cr, .int .i64 n] 47)).alloc (.cells #[.slice (some ⟨bw2, ow2, none⟩) 8 cw2, .slice Ar2 m cr2, .int .i64 n] 47)) (w.heap.size + 1) 47 #[.slice (some ⟨bw2, ow2, none⟩) 8 cw2, .slice Ar2 m cr2, .int .i64 n] := by
    have := Blk.new (w.alloc (.cells #[.slice (some ⟨bw, ow, none⟩) 8 cw, .slice Ar m cr, .int .i64 n] 47)) 47 #[.slice (some ⟨bw2, ow2, none⟩) 8 cw2, .slice Ar2 m cr2, .int .i64 n]
    simpa using this
  have hR : Below w.heap.size w ((w.alloc (.cells #[.slice (some ⟨bw, ow, none⟩) 8 cw, .slice Ar m cr, .int .i64 n] 47)).alloc (.cells #[.slice (some ⟨bw2, ow2, none⟩) 8 cw2, .slice Ar2 m cr2, .int .i64 n] 47)) := by go_grown
  generalize (w.alloc (.cells #[.slice (some ⟨bw, ow, none⟩) 8 cw, .slice Ar m cr, .int .i64 n] 47)).alloc (.cells #[.slice (some ⟨bw2, ow2, none⟩) 8 cw2, .slice Ar2 m cr2, .int .i64 n] 47) = wx at *
  have HW := Lib.hid (HW.out.stays hR)
  have HW2 := Lib.hid (HW2.out.stays hR)
  have c0 := B0.cell 0
  have c1 := B1.cell 0
  simp only [List.getElem?_toArray, List.getElem?_cons_zero] at c0 c1
  clear HR HR2
  go_wp2
  go_loopw [5] (fun i wr => ∃ j : Nat, j ≤ 8 ∧ i = .int .i64 j ∧ Below wx.heap.size wx wr) (fun i _ => 8 - (intOf i).toNat)
  case atStart => exact ⟨0, by omega, rfl, Below.refl _ _⟩
  case round =>
    obtain ⟨j, hj, rfl, hbr⟩ := hrel
    have d0 := cell_stays hbr c0
    have d1 := cell_stays hbr c1
    by_cases hj8 : j < 8
    · have hji : (j : Int) < 8 := by omega
      obtain ⟨b', o', e1, x0⟩ := (HW.out.stays hbr).at_ hj8
      obtain ⟨b2', o2', e2, x1⟩ := (HW2.out.stays hbr).at_ hj8
      simp only [Option.some.injEq, Addr.mk.injEq, and_true] at e1 e2
      obtain ⟨rfl, rfl⟩ := e1
      obtain ⟨rfl, rfl⟩ := e2
      go_wp2_with fail
      refine region_still (by kernel_rfl) (by kernel_rfl) ?_
      repeat still_step
      refine wpStill_nil ?_
      go_wp2
      go_roundw
      case rel => exact ⟨j + 1, by omega, by go_num, hbr.drew⟩
      case measure => simp [intOf]; omega
    · obtain rfl : j = 8 := by omega
      go_wp2
      go_ret
      exact ⟨rfl, hR.trans (hbr.mono hR.size)⟩
end Go.Proofs.Yticknkaohjkjpaa
