/- hash.More where the bytes are too many; sectimeref02.Valid, More and End at any state. -/
import Derived.Test.YticknkaohjkjpaaHsA
import Derived.Test.YticknkaohjkjpaaRefS
import Derived.Test.YticknkaohjkjpaaTakeZ
import Derived.Test.YticknkaohjkjpaaSl
import Derived.Test.YticknkaohjkjpaaBlks
import Derived.Test.YticknkaohjkjpaaItems
import Derived.Deep.DeepCutAuto
namespace Go.Proofs.Yticknkaohjkjpaa
open Go.RowKit

set_option maxRecDepth 100000 in
set_option maxHeartbeats 2000000 in
theorem more_long (Aw : Option Addr) (nw cw : Nat) (Ar : Option Addr) (m cr : Nat) (n : Int) (Ab : Option Addr) (nb cb : Nat) (w : World) (hm : m ≤ 1000) (hb0 : nb ≤ 1000) (hv : vldH nw n m = true) (hl : 1099511627776 < n + (nb : Int)) :
    Calls Try.prog 37 #[.agg #[.slice Aw nw cw, .slice Ar m cr, .int .i64 n], .slice Ab nb cb] w fun e w' => e = .returned (.tuple #[.agg #[.slice none 0 0, .slice none 0 0, .int .i64 0], .int .i64 2]) ∧ Below w.heap.size w w' := by
  have HV := Lib.hid hv
  clear hv
  obtain ⟨rfl, n0, n1, hmm⟩ := vldH_ok HV.out
  clear hmm
  have wr1 : IntKind.i64.wrap (n + (nb : Int)) = n + (nb : Int) := IntWalk.i64_in _ (by omega)
  have c1 : 1099511627776 < n + (nb : Int) := by omega
  clear hl
  go_enter Try.func37, Try.ntmps37
  go_upto_region 1 with fail
  obtain ⟨x1, a_, o_, ex1, ea_, eo_⟩ : ∃ x1 a_ o_, x1 = (w.alloc (.cells #[.slice Aw 8 cw, .slice Ar m cr, .int .i64 n] 47)).alloc (.cells #[.slice none 0 0, .slice none 0 0, .int .i64 0] 47) ∧ a_ = w.heap.size ∧ o_ = w.heap.size + 1 := ⟨_, _, _, rfl, rfl, rfl⟩
  rw [← ex1, ← eo_, ← ea_]
  have hbx : Below w.heap.size w x1 := by rw [ex1]; exact below_alloc2 _ _ _ 
  have o_A_O : a_ < o_ := by omega
  have g_A : w.heap.size ≤ a_ := by rw [ea_]; exact Nat.le_refl _
  have BA := Lib.hid (show Blk x1 a_ 47 #[.slice Aw 8 cw, .slice Ar m cr, .int .i64 n] by rw [ex1, ea_]; exact blk_new2_0 _ _ _ _ _ )
  have BO := Lib.hid (show Blk x1 o_ 47 #[.slice none 0 0, .slice none 0 0, .int .i64 0] by rw [ex1, eo_]; exact blk_new2_1 _ _ _ _ _ )
  have R2 := Lib.hid hbx
  have hz_x1 := R2.out.size
  clear hbx ex1 ea_ eo_
  have kA_0 : x1.cell? ⟨a_, 0, none⟩ = some (.slice Aw 8 cw) := BA.out.cell 0
  have kA_1 : x1.cell? ⟨a_, 1, none⟩ = some (.slice Ar m cr) := BA.out.cell 1
  have kA_2 : x1.cell? ⟨a_, 2, none⟩ = some (.int .i64 n) := BA.out.cell 2
  go_wp2_with fail
  refine (validH_any _ _ _ _ _ _ _ _ (by omega) hm).mono ?_
  rintro e y3 ⟨rfl, hb⟩
  clear kA_0 kA_1 kA_2
  have hbx : Below x1.heap.size x1 y3 := below_via (by go_grown) hb (by first | (simp; done) | (simp; omega))
  have BA := Lib.hid (BA.out.stays hbx)
  have BO := Lib.hid (BO.out.stays hbx)
  have R4 := Lib.hid (R2.out.trans (hbx.mono hz_x1))
  have hz_y3 := R4.out.size
  clear hb hbx  R2 hz_x1
  rw [HV.out]
  have kA_0 : y3.cell? ⟨a_, 0, none⟩ = some (.slice Aw 8 cw) := BA.out.cell 0
  have kA_1 : y3.cell? ⟨a_, 1, none⟩ = some (.slice Ar m cr) := BA.out.cell 1
  have kA_2 : y3.cell? ⟨a_, 2, none⟩ = some (.int .i64 n) := BA.out.cell 2
  have kO_0 : y3.cell? ⟨o_, 0, none⟩ = some (.slice none 0 0) := BO.out.cell 0
  have kO_1 : y3.cell? ⟨o_, 1, none⟩ = some (.slice none 0 0) := BO.out.cell 1
  have kO_2 : y3.cell? ⟨o_, 2, none⟩ = some (.int .i64 0) := BO.out.cell 2
  have fO_0 := BO.out.frozen 0
  have fO_1 := BO.out.frozen 1
  have fO_2 := BO.out.frozen 2
  go_wp2_with fail
  clear kA_0 kA_1 kA_2 kO_0 kO_1 kO_2 fO_0 fO_1 fO_2
  refine bodyPost_ret (results_hs2 (r := 4) (t := 5) rfl _ rfl (store_hs BO.out)) rfl ⟨rfl, ?_⟩
  exact ((R4.out.setCell (p := ⟨o_, 0, none⟩) (by simp only []; omega) _).setCell (p := ⟨o_, 1, none⟩) (by simp only []; omega) _).setCell (p := ⟨o_, 2, none⟩) (by simp only []; omega) _
set_option maxHeartbeats 1000000 in
theorem refValidH_any (Aw : Option Addr) (nw cw : Nat) (Ar : Option Addr) (m cr : Nat) (n : Int) (w : World) (hq : nw ≤ 100) (hm : m ≤ 1000) :
    Calls Try.prog 42 #[.agg #[.slice Aw nw cw, .slice Ar m cr, .int .i64 n]] w fun e w' => e = .returned (.bool (vldH nw n m)) ∧ Below w.heap.size w w' := by
  by_cases c1 : nw = 8
  · subst c1
    by_cases c2 : 0 ≤ n
    · by_cases c3 : n ≤ 1099511627776
      · obtain ⟨k, hk⟩ : ∃ k : Nat, n % 64 = (k : Int) := ⟨(n % 64).toNat, by omega⟩
        have hv : vldH 8 n m = decide (m = k) := by unfold vldH; rw [decide_eq_decide]; omega
        have HV := Lib.hid hv
        have c4 : n.tmod 64 = (k : Int) := by rw [Int.tmod_eq_emod_of_nonneg c2]; exact hk
        clear hv
        by_cases c5 : m = k
        · subst c5
          have HT : Hid (vldH 8 n m = true) := by unfold Hid; rw [HV.out]; simp
          go_enter Try.func42, Try.ntmps42
          go_wp2
          go_ret
          exact ⟨by rw [HT.out]; rfl, by go_grown⟩
        · have HT : Hid (vldH 8 n m = false) := by unfold Hid; rw [HV.out]; simp [c5]
          have c6 : ((m : Int) == (k : Int)) = false := by simp; omega
          clear c5
          go_enter Try.func42, Try.ntmps42
          go_wp2
          go_ret
          exact ⟨by rw [HT.out]; rfl, by go_grown⟩
      · have HT : Hid (vldH 8 n m = false) := by unfold Hid vldH; simp; omega
        go_enter Try.func42, Try.ntmps42
        go_wp2
        go_ret
        exact ⟨by rw [HT.out]; rfl, by go_grown⟩
    · have HT : Hid (vldH 8 n m = false) := by unfold Hid vldH; simp; omega
      go_enter Try.func42, Try.ntmps42
      go_wp2
      go_ret
      exact ⟨by rw [HT.out]; rfl, by go_grown⟩
  · have HT : Hid (vldH nw n m = false) := by unfold Hid vldH; simp; omega
    have hb : ((nw : Int) == 8) = false := by simp; omega
    have hb2 : ((nw : Int) != 8) = true := by simp; omega
    clear c1
    go_enter Try.func42, Try.ntmps42
    go_wp2
    go_ret
    exact ⟨by rw [HT.out]; rfl, by go_grown⟩
set_option maxHeartbeats 1000000 in
theorem refMore_bad (Aw : Option Addr) (nw cw : Nat) (Ar : Option Addr) (m cr : Nat) (n : Int) (Ab : Option Addr) (nb cb : Nat) (w : World) (hq : nw ≤ 100) (hm : m ≤ 1000) (hv : vldH nw n m = false) :
    Calls Try.prog 38 #[.agg #[.slice Aw nw cw, .slice Ar m cr, .int .i64 n], .slice Ab nb cb] w fun e w' => e = .returned (.tuple #[.agg #[.slice none 0 0, .slice none 0 0, .int .i64 0], .int .i64 3]) ∧ Below w.heap.size w w' := by
  have HV := Lib.hid hv
  clear hv
  go_enter Try.func38, Try.ntmps38
  go_wp2_with fail
  refine (refValidH_any _ _ _ _ _ _ _ _ hq hm).mono ?_
  rintro e w1 ⟨rfl, hb1⟩
  rw [HV.out]
  have R1 : Below w.heap.size w w1 := below_via (by go_grown) hb1 (by simp; omega)
  have B1 := Lib.hid (show Blk w1 (w.heap.size + 1) 47 #[.slice none 0 0, .slice none 0 0, .int .i64 0] by
    have := (Blk.new (w.alloc (.cells #[.slice Aw nw cw, .slice Ar m cr, .int .i64 n] 47)) 47 #[.slice none 0 0, .slice none 0 0, .int .i64 0]).stays hb1
    simpa using this)
  have c0 := B1.out.cell 0
  have c1 := B1.out.cell 1
  have c2 := B1.out.cell 2
  have f0 := B1.out.frozen 0
  have f1 := B1.out.frozen 1
  have f2 := B1.out.frozen 2
  have hz := B1.out.lt
  simp only [List.getElem?_toArray, List.getElem?_cons_zero, List.getElem?_cons_succ] at c0 c1 c2
  clear hb1
  go_wp2_with fail
  refine bodyPost_ret (results_hs2 (r := 4) (t := 5) rfl _ rfl (store_hs B1.out)) rfl ⟨rfl, by go_grown⟩
set_option maxHeartbeats 1000000 in
theorem refEnd_bad (Aw : Option Addr) (nw cw : Nat) (Ar : Option Addr) (m cr : Nat) (n : Int) (w : World) (hq : nw ≤ 100) (hm : m ≤ 1000) (hv : vldH nw n m = false) :
    Calls Try.prog 40 #[.agg #[.slice Aw nw cw, .slice Ar m cr, .int .i64 n]] w fun e w' => e = .returned (.tuple #[.slice none 0 0, .int .i64 3]) ∧ Below w.heap.size w w' := by
  have HV := Lib.hid hv
  clear hv
  go_enter Try.func40, Try.ntmps40
  go_wp2_with fail
  refine (refValidH_any _ _ _ _ _ _ _ _ hq hm).mono ?_
  rintro e w1 ⟨rfl, hb1⟩
  rw [HV.out]
  have R1 : Below w.heap.size w w1 := below_via (by go_grown) hb1 (by simp)
  clear hb1
  go_wp2
  go_returns
  exact ⟨rfl, R1⟩
set_option maxRecDepth 100000 in
set_option maxHeartbeats 2000000 in
theorem refMore_long (Aw : Option Addr) (nw cw : Nat) (Ar : Option Addr) (m cr : Nat) (n : Int) (Ab : Option Addr) (nb cb : Nat) (w : World) (hm : m ≤ 1000) (hb0 : nb ≤ 1000) (hv : vldH nw n m = true) (hl : 1099511627776 < n + (nb : Int)) :
    Calls Try.prog 38 #[.agg #[.slice Aw nw cw, .slice Ar m cr, .int .i64 n], .slice Ab nb cb] w fun e w' => e = .returned (.tuple #[.agg #[.slice none 0 0, .slice none 0 0, .int .i64 0], .int .i64 2]) ∧ Below w.heap.size w w' := by
  have HV := Lib.hid hv
  clear hv
  obtain ⟨rfl, n0, n1, hmm⟩ := vldH_ok HV.out
  clear hmm
  have c1 : 1099511627776 - n < (nb : Int) := by omega
  have q1 : (nb : Int) ≤ 9223372036854775807 := by omega
  clear hl
  go_enter Try.func38, Try.ntmps38
  go_upto_region 1 with fail
  obtain ⟨x1, a_, o_, ex1, ea_, eo_⟩ : ∃ x1 a_ o_, x1 = (w.alloc (.cells #[.slice Aw 8 cw, .slice Ar m cr, .int .i64 n] 47)).alloc (.cells #[.slice none 0 0, .slice none 0 0, .int .i64 0] 47) ∧ a_ = w.heap.size ∧ o_ = w.heap.size + 1 := ⟨_, _, _, rfl, rfl, rfl⟩
  rw [← ex1, ← eo_, ← ea_]
  have hbx : Below w.heap.size w x1 := by rw [ex1]; exact below_alloc2 _ _ _ 
  have o_A_O : a_ < o_ := by omega
  have g_A : w.heap.size ≤ a_ := by rw [ea_]; exact Nat.le_refl _
  have BA := Lib.hid (show Blk x1 a_ 47 #[.slice Aw 8 cw, .slice Ar m cr, .int .i64 n] by rw [ex1, ea_]; exact blk_new2_0 _ _ _ _ _ )
  have BO := Lib.hid (show Blk x1 o_ 47 #[.slice none 0 0, .slice none 0 0, .int .i64 0] by rw [ex1, eo_]; exact blk_new2_1 _ _ _ _ _ )
  have R2 := Lib.hid hbx
  have hz_x1 := R2.out.size
  clear hbx ex1 ea_ eo_
  have kA_0 : x1.cell? ⟨a_, 0, none⟩ = some (.slice Aw 8 cw) := BA.out.cell 0
  have kA_1 : x1.cell? ⟨a_, 1, none⟩ = some (.slice Ar m cr) := BA.out.cell 1
  have kA_2 : x1.cell? ⟨a_, 2, none⟩ = some (.int .i64 n) := BA.out.cell 2
  go_wp2_with fail
  refine (refValidH_any _ _ _ _ _ _ _ _ (by omega) hm).mono ?_
  rintro e y3 ⟨rfl, hb⟩
  clear kA_0 kA_1 kA_2
  have hbx : Below x1.heap.size x1 y3 := below_via (by go_grown) hb (by first | (simp; done) | (simp; omega))
  have BA := Lib.hid (BA.out.stays hbx)
  have BO := Lib.hid (BO.out.stays hbx)
  have R4 := Lib.hid (R2.out.trans (hbx.mono hz_x1))
  have hz_y3 := R4.out.size
  clear hb hbx  R2 hz_x1
  rw [HV.out]
  have kA_0 : y3.cell? ⟨a_, 0, none⟩ = some (.slice Aw 8 cw) := BA.out.cell 0
  have kA_1 : y3.cell? ⟨a_, 1, none⟩ = some (.slice Ar m cr) := BA.out.cell 1
  have kA_2 : y3.cell? ⟨a_, 2, none⟩ = some (.int .i64 n) := BA.out.cell 2
  have kO_0 : y3.cell? ⟨o_, 0, none⟩ = some (.slice none 0 0) := BO.out.cell 0
  have kO_1 : y3.cell? ⟨o_, 1, none⟩ = some (.slice none 0 0) := BO.out.cell 1
  have kO_2 : y3.cell? ⟨o_, 2, none⟩ = some (.int .i64 0) := BO.out.cell 2
  have fO_0 := BO.out.frozen 0
  have fO_1 := BO.out.frozen 1
  have fO_2 := BO.out.frozen 2
  go_wp2_with fail
  clear kA_0 kA_1 kA_2 kO_0 kO_1 kO_2 fO_0 fO_1 fO_2
  refine bodyPost_ret (results_hs2 (r := 4) (t := 5) rfl _ rfl (store_hs BO.out)) rfl ⟨rfl, ?_⟩
  exact ((R4.out.setCell (p := ⟨o_, 0, none⟩) (by simp only []; omega) _).setCell (p := ⟨o_, 1, none⟩) (by simp only []; omega) _).setCell (p := ⟨o_, 2, none⟩) (by simp only []; omega) _
set_option maxRecDepth 100000 in
set_option maxHeartbeats 2000000 in
theorem refEnd_go (S : St) (hS : InS S) (r : List UInt8) (Aw : Option Addr) (cw : Nat) (Ar : Option Addr) (cr n m : Nat) (w : World) (hm64 : m < 64) (hn : n ≤ 1099511627776) (hw : Words w Aw 8 cw (stL S)) (hr : Bytes w Ar m cr r) (hv : vldH 8 n m = true) :
    Calls Try.prog 40 #[.agg #[.slice Aw 8 cw, .slice Ar m cr, .int .i64 n]] w fun e w' => ∃ A' c', e = .returned (.tuple #[.slice A' 32 c', .int .i64 0]) ∧ Bytes w' A' 32 c' (finL S r n) ∧ Below w.heap.size w w' := by
  have HW := Lib.hid hw
  have HR := Lib.hid hr
  have HV := Lib.hid hv
  have HS := Lib.hid hS
  clear hw hr hv hS
  go_enter Try.func40, Try.ntmps40
  go_upto_region 1 with fail
  obtain ⟨x1, a_, ex1, ea_⟩ : ∃ x1 a_, x1 = w.alloc (.cells #[.slice Aw 8 cw, .slice Ar m cr, .int .i64 n] 47) ∧ a_ = w.heap.size := ⟨_, _, rfl, rfl⟩
  rw [← ex1, ← ea_]
  have hbx : Below w.heap.size w x1 := by rw [ex1]; exact below_alloc1 _ _ 
  have g_A : w.heap.size ≤ a_ := by rw [ea_]; exact Nat.le_refl _
  have HW := Lib.hid (HW.out.stays hbx)
  have HR := Lib.hid (HR.out.stays hbx)
  have BA := Lib.hid (show Blk x1 a_ 47 #[.slice Aw 8 cw, .slice Ar m cr, .int .i64 n] by rw [ex1, ea_]; exact blk_new1_0 _ _ _ )
  have R2 := Lib.hid hbx
  have hz_x1 := R2.out.size
  clear hbx ex1 ea_
  have kA_0 : x1.cell? ⟨a_, 0, none⟩ = some (.slice Aw 8 cw) := BA.out.cell 0
  have kA_1 : x1.cell? ⟨a_, 1, none⟩ = some (.slice Ar m cr) := BA.out.cell 1
  have kA_2 : x1.cell? ⟨a_, 2, none⟩ = some (.int .i64 n) := BA.out.cell 2
  go_wp2_with fail
  refine (refValidH_any _ _ _ _ _ _ _ _ (by omega) (by omega)).mono ?_
  rintro e y3 ⟨rfl, hb⟩
  clear kA_0 kA_1 kA_2
  have hbx : Below x1.heap.size x1 y3 := below_via (by go_grown) hb (by first | (simp; done) | (simp; omega))
  have BA := Lib.hid (BA.out.stays hbx)
  have HW := Lib.hid (HW.out.stays hbx)
  have HR := Lib.hid (HR.out.stays hbx)
  have R4 := Lib.hid (R2.out.trans (hbx.mono hz_x1))
  have hz_y3 := R4.out.size
  clear hb hbx  R2 hz_x1
  rw [HV.out]
  have kA_0 : y3.cell? ⟨a_, 0, none⟩ = some (.slice Aw 8 cw) := BA.out.cell 0
  have kA_1 : y3.cell? ⟨a_, 1, none⟩ = some (.slice Ar m cr) := BA.out.cell 1
  have kA_2 : y3.cell? ⟨a_, 2, none⟩ = some (.int .i64 n) := BA.out.cell 2
  go_wp2_with fail
  refine (refFinish_any S HS.out r _ _ _ m _ n _ HW.out HR.out hm64 (by omega)).mono ?_
  rintro e y5 ⟨A', c', rfl, hv, hb⟩
  clear kA_0 kA_1 kA_2
  have hbx : Below y3.heap.size y3 y5 := below_via (by go_grown) hb (by first | (simp; done) | (simp; omega))
  have BA := Lib.hid (BA.out.stays hbx)
  have HW := Lib.hid (HW.out.stays hbx)
  have HR := Lib.hid (HR.out.stays hbx)
  have VV := Lib.hid (show Bytes _ _ _ _ _ from own_rd hv)
  have R6 := Lib.hid (R4.out.trans (hbx.mono hz_y3))
  have hz_y5 := R6.out.size
  clear hb hbx  R4 hz_y3
  clear hv
  go_wp2
  go_returns
  exact ⟨_, _, rfl, VV.out, R6.out⟩
theorem infoU32 : (Try.prog.info? 59).map (fun i => (i.zero, i.size, i.bytes)) = some (some (.int .u32 0), 1, 4) := by kernel_rfl
theorem own_empty {w : World} {g B e : Nat} (h : Blk w g e #[]) (hB : B ≤ g) : w.ownsRow B e 1 (.slice (some ⟨g, 0, none⟩) 0 0) 0 [] :=
  ⟨rfl, .inr ⟨g, 0, #[], rfl, hB, h, Nat.le_refl _, by decide, rfl, rfl⟩⟩
theorem hsh1 {X w8 : World} {E T : TypeId} {Z : Array Value} (hg : ((X.alloc (.cells #[] E)).alloc (.cells Z T)).drew.grownBy w8 (Value.slice (some ⟨X.heap.size, 0, none⟩) 0 0).ownBlock) : Blk w8 (X.heap.size + 1) T Z :=
  Blk.grown (by simpa using (Blk.new (X.alloc (.cells #[] E)) T Z).drew) hg (by simp [Value.ownBlock])
theorem hsh2 {X w8 : World} {E T : TypeId} {Z : Array Value} (hg : ((X.alloc (.cells Z T)).alloc (.cells #[] E)).drew.grownBy w8 (Value.slice (some ⟨X.heap.size + 1, 0, none⟩) 0 0).ownBlock) : Blk w8 X.heap.size T Z :=
  Blk.grown (((Blk.new X T Z).stays ((Below.refl _ _).alloc (Nat.le_refl _) _)).drew) hg (by simp [Value.ownBlock])
theorem rd_set {w : World} {g T n c : Nat} {Z : Array Value} {A : Option Addr} {xs : List Value} (hR : Rd w 1 A n c xs) (hB : Blk w g T Z) (hz : Z.size < n) (i : Nat) (v : Value) : Rd (w.setCell ⟨g, i, none⟩ v) 1 A n c xs := by
  refine ⟨hR.1, hR.2.1, hR.2.2.1, fun k u hu => ?_⟩
  obtain ⟨b, off, e, hc⟩ := hR.2.2.2 k u hu
  have hl : xs.length = n := by have := hR.1; omega
  have hne : b ≠ g := by
    intro h
    subst h
    obtain ⟨b', off', e', hc'⟩ := hR.2.2.2 (n - 1) _ (List.getElem?_eq_getElem (by omega))
    rw [e] at e'
    simp only [Option.some.injEq, Addr.mk.injEq, and_true] at e'
    obtain ⟨rfl, rfl⟩ := e'
    rw [hB.cell, Array.getElem?_eq_none (by omega)] at hc'
    cases hc'
  exact ⟨b, off, e, (World.cell?_of_block (a := ⟨b, off + k, none⟩) (Below.heap_setCell w ⟨g, i, none⟩ v b hne)).trans hc⟩
theorem rd_off {w : World} {g n c : Nat} {A : Option Addr} {xs : List Value} (hR : Rd w 1 A n c xs) (hne : ∀ x, A = some x → x.block ≠ g) (i : Nat) (v : Value) : Rd (w.setCell ⟨g, i, none⟩ v) 1 A n c xs :=
  ⟨hR.1, hR.2.1, hR.2.2.1, fun k u hu => by
    obtain ⟨b, off, e, hc⟩ := hR.2.2.2 k u hu
    exact ⟨b, off, e, (World.cell?_of_block (a := ⟨b, off + k, none⟩) (Below.heap_setCell w ⟨g, i, none⟩ v b (hne _ e))).trans hc⟩⟩
theorem hs_own {w8 : World} {B E c8 : Nat} {A8 : Option Addr} {S : St} (h : w8.ownsRow B E 1 (.slice A8 8 c8) 8 ((stL S).map wV)) : Words w8 A8 8 c8 (stL S) := own_rd h
theorem hs_store {w8 : World} {B E c8 g T : Nat} {A8 : Option Addr} {S : St} {a0 a1 a2 v0 v1 v2 : Value} (h : w8.ownsRow B E 1 (.slice A8 8 c8) 8 ((stL S).map wV)) (hB : Blk w8 g T #[a0, a1, a2]) : Words (((w8.setCell ⟨g, 0, none⟩ v0).setCell ⟨g, 1, none⟩ v1).setCell ⟨g, 2, none⟩ v2) A8 8 c8 (stL S) := by
  have h0 : Rd w8 1 A8 8 c8 _ := own_rd h
  exact rd_set (rd_set (rd_set h0 hB (by simp) 0 v0) (hB.put 0 v0) (by simp) 1 v1) ((hB.put 0 v0).put 1 v1) (by simp) 2 v2
theorem hs_below {w0 w8 : World} {B g : Nat} {v0 v1 v2 : Value} (h : Below B w0 w8) (hg : B ≤ g) : Below B w0 (((w8.setCell ⟨g, 0, none⟩ v0).setCell ⟨g, 1, none⟩ v1).setCell ⟨g, 2, none⟩ v2) :=
  ((h.setCell (p := ⟨g, 0, none⟩) hg v0).setCell (p := ⟨g, 1, none⟩) hg v1).setCell (p := ⟨g, 2, none⟩) hg v2
theorem one_wl {l : List Int} : ∀ u ∈ l.map wV, u.oneCell' = true := by
  intro u hu
  obtain ⟨x, _, rfl⟩ := List.mem_map.1 hu
  rfl
theorem app_words {w : World} {gr B cw : Nat} {Aw : Option Addr} {l : List Int} (BR : Blk w gr 59 #[]) (hB : B ≤ gr) (hs : B ≤ w.heap.size) (hW : Words w Aw 8 cw l) (ty : TypeId) :
    ∃ v w', (Builtin.append_ #[45, 45] ty #[.slice (some ⟨gr, 0, none⟩) 0 0, .slice Aw 8 cw]).run Try.prog w = .ok v w' ∧ (∃ A8 c8, v = .slice A8 8 c8 ∧ w'.ownsRow B 59 1 (.slice A8 8 c8) 8 (l.map wV) ∧ w.grownBy w' (some gr) ∧ Below B w w') := by
  obtain ⟨i0, hi, hz0, hz1, hz2⟩ := info_parts infoU32
  have hown := own_empty BR hB
  obtain ⟨A8, c8, w8, hrun, h2, h3, h4⟩ := run_append_rd (P := Try.prog) 45 ty i0 (.int .u32 0) 4 Try.underlying45 hi hz0 hz1 hz2 rfl (by decide) hown hW one_wl (by decide) (by decide) hs
  exact ⟨_, w8, hrun, A8, c8, rfl, h2, h3, (Below.refl B w).grown h3 hs (fun k hk => (hown.lt k hk).1)⟩
theorem one_words {l : List Int} : ∀ u ∈ l.map wV, u.oneCell' = true := by
  intro u hu
  obtain ⟨x, _, rfl⟩ := List.mem_map.1 hu
  rfl
set_option maxRecDepth 100000 in
set_option maxHeartbeats 8000000 in
theorem refMore_go (S : St) (r b : List UInt8) (Aw : Option Addr) (cw : Nat) (Ar : Option Addr) (cr n m : Nat) (Ab : Option Addr) (nb cb : Nat) (w : World) (hm64 : m < 64) (hnb : nb ≤ 1000) (hcnt0 : n + nb ≤ 1099511627776) (hv : vldH 8 n m = true)
    (hw : Words w Aw 8 cw (stL S)) (hr : Bytes w Ar m cr r) (hb : Bytes w Ab nb cb b) :
    Calls Try.prog 38 #[.agg #[.slice Aw 8 cw, .slice Ar m cr, .int .i64 n], .slice Ab nb cb] w fun e w' => ∃ Aw' cw' Ar' cr', e = .returned (.tuple #[.agg #[.slice Aw' 8 cw', .slice Ar' ((m + nb) % 64) cr', .int .i64 ((n : Int) + (nb : Int))], .int .i64 0]) ∧
      Words w' Aw' 8 cw' (stL (blocksL S (r ++ b) ((m + nb) / 64))) ∧ Bytes w' Ar' ((m + nb) % 64) cr' ((r ++ b).drop (64 * ((m + nb) / 64))) ∧ Below w.heap.size w w' := by
  obtain ⟨i0, hi, hz0, hz1, hz2⟩ := info_parts infoU32
  have HW := Lib.hid hw
  have HR := Lib.hid hr
  have HB := Lib.hid hb
  have HV := Lib.hid hv
  have q1 := hw.le
  have q2 := hw.cap
  have q5 := hb.le
  have q6 := hb.cap
  have hL : ([r, b] : List (List UInt8)).flatten.length = m + nb := by simp [hr.len, hb.len]
  have HL := Lib.hid hL
  clear hw hr hb hv hL
  have c1 : ¬ 1099511627776 - (n : Int) < (nb : Int) := by omega
  have ws : IntKind.i64.wrap ((n : Int) + (nb : Int)) = (n : Int) + (nb : Int) := IntWalk.i64_in _ (by omega)
  go_enter Try.func38, Try.ntmps38
  go_upto_region 1 with fail
  obtain ⟨x1, a_, o_, ex1, ea_, eo_⟩ : ∃ x1 a_ o_, x1 = (w.alloc (.cells #[.slice Aw 8 cw, .slice Ar m cr, .int .i64 n] 47)).alloc (.cells #[.slice none 0 0, .slice none 0 0, .int .i64 0] 47) ∧ a_ = w.heap.size ∧ o_ = w.heap.size + 1 := ⟨_, _, _, rfl, rfl, rfl⟩
  rw [← ex1, ← eo_, ← ea_]
  have hbx : Below w.heap.size w x1 := by rw [ex1]; exact below_alloc2 _ _ _ 
  have o_A_O : a_ < o_ := by omega
  have g_A : w.heap.size ≤ a_ := by rw [ea_]; exact Nat.le_refl _
  have HW := Lib.hid (HW.out.stays hbx)
  have HR := Lib.hid (HR.out.stays hbx)
  have HB := Lib.hid (HB.out.stays hbx)
  have BA := Lib.hid (show Blk x1 a_ 47 #[.slice Aw 8 cw, .slice Ar m cr, .int .i64 n] by rw [ex1, ea_]; exact blk_new2_0 _ _ _ _ _ )
  have BO := Lib.hid (show Blk x1 o_ 47 #[.slice none 0 0, .slice none 0 0, .int .i64 0] by rw [ex1, eo_]; exact blk_new2_1 _ _ _ _ _ )
  have R2 := Lib.hid hbx
  have hz_x1 := R2.out.size
  clear hbx ex1 ea_ eo_
  have kA_0 : x1.cell? ⟨a_, 0, none⟩ = some (.slice Aw 8 cw) := BA.out.cell 0
  have kA_1 : x1.cell? ⟨a_, 1, none⟩ = some (.slice Ar m cr) := BA.out.cell 1
  have kA_2 : x1.cell? ⟨a_, 2, none⟩ = some (.int .i64 n) := BA.out.cell 2
  go_wp2_with fail
  refine (refValidH_any _ _ _ _ _ _ _ _ (by omega) (by omega)).mono ?_
  rintro e y3 ⟨rfl, hb⟩
  clear kA_0 kA_1 kA_2
  have hbx : Below x1.heap.size x1 y3 := below_via (by go_grown) hb (by first | (simp; done) | (simp; omega))
  have BA := Lib.hid (BA.out.stays hbx)
  have BO := Lib.hid (BO.out.stays hbx)
  have HW := Lib.hid (HW.out.stays hbx)
  have HR := Lib.hid (HR.out.stays hbx)
  have HB := Lib.hid (HB.out.stays hbx)
  have R4 := Lib.hid (R2.out.trans (hbx.mono hz_x1))
  have hz_y3 := R4.out.size
  clear hb hbx  R2 hz_x1
  rw [HV.out]
  have kA_0 : y3.cell? ⟨a_, 0, none⟩ = some (.slice Aw 8 cw) := BA.out.cell 0
  have kA_1 : y3.cell? ⟨a_, 1, none⟩ = some (.slice Ar m cr) := BA.out.cell 1
  have kA_2 : y3.cell? ⟨a_, 2, none⟩ = some (.int .i64 n) := BA.out.cell 2
  go_wp2_with fail
  refine (refJoin_any _ _ _ [r, b] _ (lists_made2 HR.out HB.out) (m + nb) HL.out (by omega)).mono ?_
  rintro e y5 ⟨Aj, cj, rfl, hv, hb⟩
  clear kA_0 kA_1 kA_2
  have hbx : Below y3.heap.size y3 y5 := below_via (by go_grown) hb (by first | (simp; done) | (simp; omega))
  have BA := Lib.hid (BA.out.stays hbx)
  have BO := Lib.hid (BO.out.stays hbx)
  have HW := Lib.hid (HW.out.stays hbx)
  have HR := Lib.hid (HR.out.stays hbx)
  have HB := Lib.hid (HB.out.stays hbx)
  have VJ := Lib.hid (show Bytes _ _ _ _ ([r, b] : List (List UInt8)).flatten from own_rd hv)
  have R6 := Lib.hid (R4.out.trans (hbx.mono hz_y3))
  have hz_y5 := R6.out.size
  clear hb hbx  R4 hz_y3
  clear hv
  go_upto_region 6 with fail
  have kA_0 : y5.cell? ⟨a_, 0, none⟩ = some (.slice Aw 8 cw) := BA.out.cell 0
  have kA_1 : y5.cell? ⟨a_, 1, none⟩ = some (.slice Ar m cr) := BA.out.cell 1
  have kA_2 : y5.cell? ⟨a_, 2, none⟩ = some (.int .i64 n) := BA.out.cell 2
  have oO := BO.out.lt
  have gO : w.heap.size ≤ o_ := by omega
  have lA := BA.out.lt
  have nA : ¬ a_ = y5.heap.size := by omega
  have nA2 : ¬ y5.heap.size = a_ := by omega
  go_cut [7] (fun s wx => ∃ (g : Nat) (Ao : Option Addr) (co : Nat), s = .pointer (some ⟨g, 0, none⟩) ∧ y5.heap.size ≤ g ∧ Blk wx g 47 #[.slice Ao 8 co, .slice none 0 0, .int .i64 ((n : Int) + (nb : Int))] ∧ Words wx Ao 8 co (stL S) ∧ Below y5.heap.size y5 wx)
  case first =>
    clear kA_0 kA_1 kA_2
    refine zBegin (Z := []) (S := fun w' => Below y5.heap.size y5 w') (by kernel_rfl) ?pz1 ((Below.refl y5.heap.size y5).drew) (fun hPQ wd hbd hHeld => ?sz1)
    case pz1 => (repeat (with_reducible first | refine PQ.then ?_ | refine PQ.block ?_)); exact fun _ _ d _ _ h => by cases d <;> exact h
    case sz1 =>
      have HW0 := Lib.hid (HW.out.stays hbd)
      have hw0 : wd.heap.size = wd.heap.size := rfl
      clear hbd
      refine zVal (i := 1) (d := (some 27)) (v := ?_) rfl rfl (by kernel_rfl) (by kernel_rfl) (by kernel_rfl) (by kernel_rfl) hPQ (by rfl) (fun wq hSw => ?_) hHeld ?_
      rotate_left 1
      · have cA := (BA.out.stays hSw).cell; go_simp; try with_reducible rfl
      try simp only [Act.put, List.setIfInBounds_toArray, List.set_cons_zero, List.set_cons_succ]
      refine zVal (i := 2) (d := (some 28)) (v := ?_) rfl rfl (by kernel_rfl) (by kernel_rfl) (by kernel_rfl) (by kernel_rfl) hPQ (by rfl) (fun wq hSw => ?_) hHeld ?_
      rotate_left 1
      · have cA := (BA.out.stays hSw).cell; go_simp; try with_reducible rfl
      try simp only [Act.put, List.setIfInBounds_toArray, List.set_cons_zero, List.set_cons_succ]
      refine zVal (i := 4) (d := (some 30)) (v := ?_) rfl rfl (by kernel_rfl) (by kernel_rfl) (by kernel_rfl) (by kernel_rfl) hPQ (by rfl) (fun wq hSw => ?_) hHeld ?_
      rotate_left 1
      · have cA := (BA.out.stays hSw).cell; go_simp; try with_reducible rfl
      try simp only [Act.put, List.setIfInBounds_toArray, List.set_cons_zero, List.set_cons_succ]
      refine zVal (i := 5) (d := (some 31)) (v := ?_) rfl rfl (by kernel_rfl) (by kernel_rfl) (by kernel_rfl) (by kernel_rfl) hPQ (by rfl) (fun wq hSw => ?_) hHeld ?_
      rotate_left 1
      · have cA := (BA.out.stays hSw).cell; go_simp; try with_reducible rfl
      try simp only [Act.put, List.setIfInBounds_toArray, List.set_cons_zero, List.set_cons_succ]
      refine zVal (i := 6) (d := (some 32)) (v := ?_) rfl rfl (by kernel_rfl) (by kernel_rfl) (by kernel_rfl) (by kernel_rfl) hPQ (by rfl) (fun wq hSw => ?_) hHeld ?_
      rotate_left 1
      · have cA := (BA.out.stays hSw).cell; go_simp; try with_reducible rfl
      try simp only [Act.put, List.setIfInBounds_toArray, List.set_cons_zero, List.set_cons_succ]
      refine zVal (i := 7) (d := (some 33)) (v := ?_) rfl rfl (by kernel_rfl) (by kernel_rfl) (by kernel_rfl) (by kernel_rfl) hPQ (by rfl) (fun wq hSw => ?_) hHeld ?_
      rotate_left 1
      · have cA := (BA.out.stays hSw).cell; go_simp; try with_reducible rfl
      try simp only [Act.put, List.setIfInBounds_toArray, List.set_cons_zero, List.set_cons_succ]
      refine zVal (i := 8) (d := (some 34)) (v := ?_) rfl rfl (by kernel_rfl) (by kernel_rfl) (by kernel_rfl) (by kernel_rfl) hPQ (by rfl) (fun wq hSw => ?_) hHeld ?_
      rotate_left 1
      · have cA := (BA.out.stays hSw).cell; go_simp; try with_reducible rfl
      try simp only [Act.put, List.setIfInBounds_toArray, List.set_cons_zero, List.set_cons_succ]
      have sz0 := hHeld.size
      refine zAll (rs := [0, 10]) (by kernel_rfl) (by decide) (fun k hk => ?_)
      rcases zTwo hk with rfl | rfl
      ·
        refine zOpNew (j := 0) (d := (some 26)) (T := 59) (z := #[]) (val := fun g => .slice (some ⟨g, 0, none⟩) 0 0) rfl rfl (by rfl) ?rz2 (fun gr w0 gr_ge gr_lt BR hb0 => ⟨.inr (hHeld.trans (hb0.mono hHeld.size)), ?tz2⟩)
        case rz2 => go_simp; try with_reducible rfl
        case tz2 =>
          try simp only [Act.put, List.setIfInBounds_toArray, List.set_cons_zero, List.set_cons_succ]
          have H0 := hHeld.trans (hb0.mono hHeld.size)
          have HWa := HW0.out.stays hb0
          have sz1 := hb0.size
          refine zAll (rs := [3, 10]) (by kernel_rfl) (by decide) (fun k hk => ?_)
          rcases zTwo hk with rfl | rfl
          ·
            refine zOpApp (j := 3) (d := (some 29)) (R := fun v w' => ∃ A8 c8, v = .slice A8 8 c8 ∧ w'.ownsRow y5.heap.size 59 1 (.slice A8 8 c8) 8 ((stL S).map wV) ∧ w0.grownBy w' (some gr) ∧ Below y5.heap.size w0 w') rfl rfl (by rfl) rfl (by rfl) (by rfl) (app_words BR (by omega) H0.size HWa _) (fun v w1 hRv => ?tz3)
            case tz3 =>
              obtain ⟨A8, c8, rfl, hown8, hg8, hb1⟩ := hRv
              refine ⟨.inr (H0.trans hb1), ?_⟩
              try simp only [Act.put, List.setIfInBounds_toArray, List.set_cons_zero, List.set_cons_succ]
              have H1 := H0.trans hb1
              have hHeld := H1
              refine zVal (i := 9) (d := (some 35)) (v := ?_) rfl rfl (by kernel_rfl) (by kernel_rfl) (by kernel_rfl) (by kernel_rfl) hPQ (by rfl) (fun wq hSw => ?_) hHeld ?_
              rotate_left 1
              · have cA := (BA.out.stays hSw).cell; go_simp; try with_reducible rfl
              try simp only [Act.put, List.setIfInBounds_toArray, List.set_cons_zero, List.set_cons_succ]
              refine zAlone (j := 10) (by kernel_rfl) ?_
              refine zOpNew (j := 10) (d := (some 7)) (T := 47) (z := #[.slice none 0 0, .slice none 0 0, .int .i64 0]) (val := fun g => .pointer (some ⟨g, 0, none⟩)) rfl rfl (by rfl) ?rz4 (fun g w2 g_ge g_lt BH hb2 => ⟨.inr (H1.trans (hb2.mono H1.size)), ?tz4⟩)
              case rz4 => go_simp; try with_reducible rfl
              case tz4 =>
                try simp only [Act.put, List.setIfInBounds_toArray, List.set_cons_zero, List.set_cons_succ]
                have H2 := H1.trans (hb2.mono H1.size)
                have hHeld := H2
                have sz2 := H1.size
                have d0 := BH.cell 0
                have d1 := BH.cell 1
                have d2 := BH.cell 2
                have e0 := BH.frozen 0
                have e1 := BH.frozen 1
                have e2 := BH.frozen 2
                refine zAlone (j := 11) (by kernel_rfl) ?_
                refine zOpStore (j := 11) (w2 := ((w2.setCell ⟨g, 0, none⟩ (.slice A8 8 c8)).setCell ⟨g, 1, none⟩ (.slice none 0 0)).setCell ⟨g, 2, none⟩ (.int .i64 ((n : Int) + (nb : Int)))) rfl rfl (by rfl) ?rz5 ⟨.inr (hs_below hHeld (by omega)), ?tz5⟩
                case rz5 => go_simp; try with_reducible rfl
                case tz5 =>
                  try simp only [Act.put, List.setIfInBounds_toArray, List.set_cons_zero, List.set_cons_succ]
                  refine zDone (by kernel_rfl) ?_ _
                  go_wp2
                  go_meet
                  exact ⟨g, A8, c8, rfl, by omega, store_hs BH, rd_set (rd_set (rd_set ((hs_own hown8).stays hb2) BH (by simp) 0 _) (BH.put 0 _) (by simp) 1 _) ((BH.put 0 _).put 1 _) (by simp) 2 _, hs_below hHeld (by omega)⟩
          ·
            refine zOpNew (j := 10) (d := (some 7)) (T := 47) (z := #[.slice none 0 0, .slice none 0 0, .int .i64 0]) (val := fun g => .pointer (some ⟨g, 0, none⟩)) rfl rfl (by rfl) ?rz6 (fun g w1 g_ge g_lt BH hb1 => ⟨.inr (H0.trans (hb1.mono H0.size)), ?tz6⟩)
            case rz6 => go_simp; try with_reducible rfl
            case tz6 =>
              try simp only [Act.put, List.setIfInBounds_toArray, List.set_cons_zero, List.set_cons_succ]
              have H1 := H0.trans (hb1.mono H0.size)
              have BR := BR.stays hb1
              refine zAlone (j := 3) (by kernel_rfl) ?_
              refine zOpApp (j := 3) (d := (some 29)) (R := fun v w' => ∃ A8 c8, v = .slice A8 8 c8 ∧ w'.ownsRow y5.heap.size 59 1 (.slice A8 8 c8) 8 ((stL S).map wV) ∧ w1.grownBy w' (some gr) ∧ Below y5.heap.size w1 w') rfl rfl (by rfl) rfl (by rfl) (by rfl) (app_words BR (by omega) H1.size (HWa.stays hb1) _) (fun v w2 hRv => ?tz7)
              case tz7 =>
                obtain ⟨A8, c8, rfl, hown8, hg8, hb2⟩ := hRv
                refine ⟨.inr (H1.trans hb2), ?_⟩
                try simp only [Act.put, List.setIfInBounds_toArray, List.set_cons_zero, List.set_cons_succ]
                have H2 := H1.trans hb2
                have BH := BH.grown hg8 (by simp; omega)
                have hHeld := H2
                refine zVal (i := 9) (d := (some 35)) (v := ?_) rfl rfl (by kernel_rfl) (by kernel_rfl) (by kernel_rfl) (by kernel_rfl) hPQ (by rfl) (fun wq hSw => ?_) hHeld ?_
                rotate_left 1
                · have cA := (BA.out.stays hSw).cell; go_simp; try with_reducible rfl
                try simp only [Act.put, List.setIfInBounds_toArray, List.set_cons_zero, List.set_cons_succ]
                have d0 := BH.cell 0
                have d1 := BH.cell 1
                have d2 := BH.cell 2
                have e0 := BH.frozen 0
                have e1 := BH.frozen 1
                have e2 := BH.frozen 2
                refine zAlone (j := 11) (by kernel_rfl) ?_
                refine zOpStore (j := 11) (w2 := ((w2.setCell ⟨g, 0, none⟩ (.slice A8 8 c8)).setCell ⟨g, 1, none⟩ (.slice none 0 0)).setCell ⟨g, 2, none⟩ (.int .i64 ((n : Int) + (nb : Int)))) rfl rfl (by rfl) ?rz8 ⟨.inr (hs_below hHeld (by omega)), ?tz8⟩
                case rz8 => go_simp; try with_reducible rfl
                case tz8 =>
                  try simp only [Act.put, List.setIfInBounds_toArray, List.set_cons_zero, List.set_cons_succ]
                  refine zDone (by kernel_rfl) ?_ _
                  go_wp2
                  go_meet
                  exact ⟨g, A8, c8, rfl, by omega, store_hs BH, hs_store hown8 BH, hs_below hHeld (by omega)⟩
      ·
        refine zOpNew (j := 10) (d := (some 7)) (T := 47) (z := #[.slice none 0 0, .slice none 0 0, .int .i64 0]) (val := fun g => .pointer (some ⟨g, 0, none⟩)) rfl rfl (by rfl) ?rz9 (fun g w0 g_ge g_lt BH hb0 => ⟨.inr (hHeld.trans (hb0.mono hHeld.size)), ?tz9⟩)
        case rz9 => go_simp; try with_reducible rfl
        case tz9 =>
          try simp only [Act.put, List.setIfInBounds_toArray, List.set_cons_zero, List.set_cons_succ]
          have H0 := hHeld.trans (hb0.mono hHeld.size)
          have HWa := HW0.out.stays hb0
          have sz1 := hb0.size
          refine zAlone (j := 0) (by kernel_rfl) ?_
          refine zOpNew (j := 0) (d := (some 26)) (T := 59) (z := #[]) (val := fun g => .slice (some ⟨g, 0, none⟩) 0 0) rfl rfl (by rfl) ?rz10 (fun gr w1 gr_ge gr_lt BR hb1 => ⟨.inr (H0.trans (hb1.mono H0.size)), ?tz10⟩)
          case rz10 => go_simp; try with_reducible rfl
          case tz10 =>
            try simp only [Act.put, List.setIfInBounds_toArray, List.set_cons_zero, List.set_cons_succ]
            have H1 := H0.trans (hb1.mono H0.size)
            have BH := BH.stays hb1
            refine zAlone (j := 3) (by kernel_rfl) ?_
            refine zOpApp (j := 3) (d := (some 29)) (R := fun v w' => ∃ A8 c8, v = .slice A8 8 c8 ∧ w'.ownsRow y5.heap.size 59 1 (.slice A8 8 c8) 8 ((stL S).map wV) ∧ w1.grownBy w' (some gr) ∧ Below y5.heap.size w1 w') rfl rfl (by rfl) rfl (by rfl) (by rfl) (app_words BR (by omega) H1.size (HWa.stays hb1) _) (fun v w2 hRv => ?tz11)
            case tz11 =>
              obtain ⟨A8, c8, rfl, hown8, hg8, hb2⟩ := hRv
              refine ⟨.inr (H1.trans hb2), ?_⟩
              try simp only [Act.put, List.setIfInBounds_toArray, List.set_cons_zero, List.set_cons_succ]
              have H2 := H1.trans hb2
              have BH := BH.grown hg8 (by simp; omega)
              have hHeld := H2
              refine zVal (i := 9) (d := (some 35)) (v := ?_) rfl rfl (by kernel_rfl) (by kernel_rfl) (by kernel_rfl) (by kernel_rfl) hPQ (by rfl) (fun wq hSw => ?_) hHeld ?_
              rotate_left 1
              · have cA := (BA.out.stays hSw).cell; go_simp; try with_reducible rfl
              try simp only [Act.put, List.setIfInBounds_toArray, List.set_cons_zero, List.set_cons_succ]
              have d0 := BH.cell 0
              have d1 := BH.cell 1
              have d2 := BH.cell 2
              have e0 := BH.frozen 0
              have e1 := BH.frozen 1
              have e2 := BH.frozen 2
              refine zAlone (j := 11) (by kernel_rfl) ?_
              refine zOpStore (j := 11) (w2 := ((w2.setCell ⟨g, 0, none⟩ (.slice A8 8 c8)).setCell ⟨g, 1, none⟩ (.slice none 0 0)).setCell ⟨g, 2, none⟩ (.int .i64 ((n : Int) + (nb : Int)))) rfl rfl (by rfl) ?rz12 ⟨.inr (hs_below hHeld (by omega)), ?tz12⟩
              case rz12 => go_simp; try with_reducible rfl
              case tz12 =>
                try simp only [Act.put, List.setIfInBounds_toArray, List.set_cons_zero, List.set_cons_succ]
                refine zDone (by kernel_rfl) ?_ _
                go_wp2
                go_meet
                exact ⟨g, A8, c8, rfl, by omega, store_hs BH, hs_store hown8 BH, hs_below hHeld (by omega)⟩
  case rest =>
    clear kA_0 kA_1 kA_2
    clear nA nA2 lA HW HR HB HV BA
    obtain ⟨g, Ao, co, rfl, hg, hG, hW, hbc⟩ := hcut
    have BO := Lib.hid (BO.out.stays hbc)
    have VJ := Lib.hid (VJ.out.stays hbc)
    have RC := Lib.hid (R6.out.trans (hbc.mono hz_y5))
    have hz_wc := RC.out.size
    have BG := Lib.hid hG
    have WG := Lib.hid hW
    have gg : w.heap.size ≤ g := Nat.le_trans hz_y5 hg
    have go : o_ < g := Nat.lt_of_lt_of_le oO hg
    clear hbc hG hW
    go_wp2_with fail
    refine (refConst_any _).mono ?_
    rintro e y7 ⟨Ak, rfl, hk, hb⟩
    have hbx : Below wc.heap.size wc y7 := below_via (by go_grown) hb (by first | (simp; done) | (simp; omega))
    have BO := Lib.hid (BO.out.stays hbx)
    have BG := Lib.hid (BG.out.stays hbx)
    have VJ := Lib.hid (VJ.out.stays hbx)
    have WG := Lib.hid (WG.out.stays hbx)
    have WK := Lib.hid hk
    have R8 := Lib.hid (RC.out.trans (hbx.mono hz_wc))
    have hz_y7 := R8.out.size
    clear hb hbx hk RC hz_wc
    go_wp2_with fail
    obtain ⟨K, hK⟩ : ∃ K, (m + nb) / 64 = K := ⟨_, rfl⟩
    have e64 : 64 * K ≤ m + nb ∧ m + nb < 64 * K + 64 := by omega
    have HK := Lib.hid hK
    clear hK
    obtain ⟨e64, e65⟩ := e64
    have jl := VJ.out.le
    have jc := VJ.out.cap
    have HVL : Hid (([r, b] : List (List UInt8)).flatten = r ++ b) := by simp [Hid]
    go_loopw [9] (fun i wr => ∃ (j cc : Nat) (AA : Option Addr), j ≤ K ∧ i = .int .i64 (64 * (j : Int)) ∧ Hid (Blk wr g 47 #[.slice AA 8 cc, .slice none 0 0, .int .i64 ((n : Int) + (nb : Int))]) ∧ Hid (Words wr AA 8 cc (stL (blocksL S (r ++ b) j))) ∧ Hid (Words wr Ak 64 64 kTab) ∧ Hid (Bytes wr Aj (m + nb) cj ([r, b] : List (List UInt8)).flatten) ∧ Hid (Blk wr o_ 47 #[.slice none 0 0, .slice none 0 0, .int .i64 0]) ∧ Below w.heap.size w wr) (fun i _ => 64 * K - (intOf i).toNat)
    case atStart => exact ⟨0, co, Ao, by omega, rfl, BG, WG, WK, VJ, BO, R8.out⟩
    case round =>
      clear BG WG WK VJ BO R8 hz_y7
      obtain ⟨j, cc, AA, hj, rfl, BG, WG, WK, VJ, BO, hbr⟩ := hrel
      have RW := Lib.hid hbr
      have hz_wr := RW.out.size
      clear hbr
      have lGr := BG.out.lt
      have lOr := BO.out.lt
      have w1 : IntKind.i64.wrap (64 * (j : Int) + 64) = 64 * (j : Int) + 64 := IntWalk.i64_in _ (by omega)
      by_cases hjK : j < K
      · have q1 : 64 * (j : Int) + 64 ≤ (m : Int) + (nb : Int) := by omega
        have s1 := run_cut und_bytes size_byte (A := Aj) (n := m + nb) (c := cj) (64 * (j : Int)) (64 * (j : Int) + 64) (64 * j) (64 * j + 64) 64 (cj - 64 * j) (by omega) (by omega) (by omega) (by omega) (by omega) rfl
        have HC := Lib.hid (VJ.out.cutS (64 * j) (64 * j + 64) (by omega) (by omega) (d := 64) (k := cj - 64 * j) (by omega) rfl)
        rw [HVL.out] at HC
        have lG := BG.out.lt
        go_upto_region 10 with fail
        refine zBegin (Z := [10]) (S := fun w' => w'.cell? ⟨g, 0, none⟩ = some (.slice AA 8 cc)) (by kernel_rfl) ?pz13 (BG.out.drew.cell 0) (fun hPQ wd hbd hHeld => ?sz13)
        case pz13 => (repeat (with_reducible first | refine PQ.then ?_ | refine PQ.block ?_)); exact fun _ _ d _ _ h => by cases d <;> exact h
        case sz13 =>
          refine zVal (i := 0) (d := (some 44)) (v := ?_) rfl rfl (by kernel_rfl) (by kernel_rfl) (by kernel_rfl) (by kernel_rfl) hPQ (by rfl) (fun wq hSw => ?_) hHeld ?_
          rotate_left 1
          · go_simp; try with_reducible rfl
          try simp only [Act.put, List.setIfInBounds_toArray, List.set_cons_zero, List.set_cons_succ]
          refine zVal (i := 1) (d := (some 45)) (v := ?_) rfl rfl (by kernel_rfl) (by kernel_rfl) (by kernel_rfl) (by kernel_rfl) hPQ (by rfl) (fun wq hSw => ?_) hHeld ?_
          rotate_left 1
          · go_simp; try with_reducible rfl
          try simp only [Act.put, List.setIfInBounds_toArray, List.set_cons_zero, List.set_cons_succ]
          refine zVal (i := 2) (d := (some 46)) (v := ?_) rfl rfl (by kernel_rfl) (by kernel_rfl) (by kernel_rfl) (by kernel_rfl) hPQ (by rfl) (fun wq hSw => ?_) hHeld ?_
          rotate_left 1
          · go_simp; try with_reducible rfl
          try simp only [Act.put, List.setIfInBounds_toArray, List.set_cons_zero, List.set_cons_succ]
          refine zVal (i := 3) (d := (some 47)) (v := ?_) rfl rfl (by kernel_rfl) (by kernel_rfl) (by kernel_rfl) (by kernel_rfl) hPQ (by rfl) (fun wq hSw => ?_) hHeld ?_
          rotate_left 1
          · go_simp; try with_reducible rfl
          try simp only [Act.put, List.setIfInBounds_toArray, List.set_cons_zero, List.set_cons_succ]
          refine zVal (i := 4) (d := (some 48)) (v := ?_) rfl rfl (by kernel_rfl) (by kernel_rfl) (by kernel_rfl) (by kernel_rfl) hPQ (by rfl) (fun wq hSw => ?_) hHeld ?_
          rotate_left 1
          · go_simp; try with_reducible rfl
          try simp only [Act.put, List.setIfInBounds_toArray, List.set_cons_zero, List.set_cons_succ]
          refine zVal (i := 5) (d := (some 49)) (v := ?_) rfl rfl (by kernel_rfl) (by kernel_rfl) (by kernel_rfl) (by kernel_rfl) hPQ (by rfl) (fun wq hSw => ?_) hHeld ?_
          rotate_left 1
          · go_simp; try with_reducible rfl
          try simp only [Act.put, List.setIfInBounds_toArray, List.set_cons_zero, List.set_cons_succ]
          refine zVal (i := 6) (d := (some 50)) (v := ?_) rfl rfl (by kernel_rfl) (by kernel_rfl) (by kernel_rfl) (by kernel_rfl) hPQ (by rfl) (fun wq hSw => ?_) hHeld ?_
          rotate_left 1
          · go_simp; try with_reducible rfl
          try simp only [Act.put, List.setIfInBounds_toArray, List.set_cons_zero, List.set_cons_succ]
          refine zVal (i := 7) (d := (some 51)) (v := ?_) rfl rfl (by kernel_rfl) (by kernel_rfl) (by kernel_rfl) (by kernel_rfl) hPQ (by rfl) (fun wq hSw => ?_) hHeld ?_
          rotate_left 1
          · go_simp; try with_reducible rfl
          try simp only [Act.put, List.setIfInBounds_toArray, List.set_cons_zero, List.set_cons_succ]
          have HCd := Lib.hid (HC.out.stays hbd)
          have WGd := Lib.hid (WG.out.stays hbd)
          have WKd := Lib.hid (WK.out.stays hbd)
          refine zMake (j := 8) (d := (some 52)) (R := fun v w' => ∃ A6, v = .slice A6 8 8 ∧ Words w' A6 8 8 (stL (blocksL S (r ++ b) (j + 1))) ∧ Below wd.heap.size wd w') rfl rfl (by kernel_rfl) (by rfl) ((refBlock_any _ _ _ _ _ _ _ _ _ WGd.out WKd.out HCd.out).mono fun e q hq => by obtain ⟨A6, h1, h2, h3⟩ := hq; exact ⟨_, h1, A6, rfl, h2, h3⟩) (by go_simp) ?_
          rintro v w6 ⟨A6, rfl, hv6, hb6⟩
          refine ⟨cell_stays hb6 hHeld, ?_⟩
          try simp only [Act.put, List.setIfInBounds_toArray, List.set_cons_zero, List.set_cons_succ]
          have hb7 : Below wr.heap.size wr w6 := hbd.trans (hb6.mono hbd.size)
          have V6 := Lib.hid hv6
          have BG := Lib.hid (BG.out.stays hb7)
          have WK := Lib.hid (WK.out.stays hb7)
          have VJ := Lib.hid (VJ.out.stays hb7)
          have BO := Lib.hid (BO.out.stays hb7)
          have RW := Lib.hid (RW.out.trans (hb7.mono hz_wr))
          have hHeld := cell_stays hb6 hHeld
          clear hv6 hb6 hb7 WG WGd WKd HCd HC
          refine zVal (i := 9) (d := (some 53)) (v := ?_) rfl rfl (by kernel_rfl) (by kernel_rfl) (by kernel_rfl) (by kernel_rfl) hPQ (by rfl) (fun wq hSw => ?_) hHeld ?_
          rotate_left 1
          · go_simp; try with_reducible rfl
          try simp only [Act.put, List.setIfInBounds_toArray, List.set_cons_zero, List.set_cons_succ]
          have kG : w6.cell? ⟨g, 0, none⟩ = some (.slice AA 8 cc) := BG.out.cell 0
          have fG := BG.out.frozen 0
          refine zStore (j := 10) (w2 := w6.setCell ⟨g, 0, none⟩ (.slice A6 8 8)) rfl rfl (by kernel_rfl) (by rfl) ?rz14 (.inl (by decide)) ?tz14
          case rz14 =>
            go_simp; try with_reducible rfl
          case tz14 =>
            try simp only [Act.put, List.setIfInBounds_toArray, List.set_cons_zero, List.set_cons_succ]
            refine zDone (by kernel_rfl) ?_ _
            clear kG fG hHeld
            obtain ⟨w9, hw9⟩ : ∃ w9, w9 = w6.setCell ⟨g, 0, none⟩ (.slice A6 8 8) := ⟨_, rfl⟩
            rw [← hw9]
            have B9 := Lib.hid (show Blk w9 g 47 #[.slice A6 8 8, .slice none 0 0, .int .i64 ((n : Int) + (nb : Int))] by rw [hw9]; exact BG.out.put 0 _)
            have W9 := Lib.hid (show Words w9 A6 8 8 _ by rw [hw9]; exact rd_set V6.out BG.out (by simp) 0 _)
            have K9 := Lib.hid (show Words w9 Ak 64 64 kTab by rw [hw9]; exact rd_set WK.out BG.out (by simp) 0 _)
            have J9 := Lib.hid (show Bytes w9 Aj (m + nb) cj _ by rw [hw9]; exact rd_set VJ.out BG.out (by simp; omega) 0 _)
            have O9 := Lib.hid (show Blk w9 o_ 47 #[.slice none 0 0, .slice none 0 0, .int .i64 0] by rw [hw9]; exact BO.out.far (p := ⟨g, 0, none⟩) (Nat.ne_of_lt go) _)
            have R9 : Below w.heap.size w w9 := by rw [hw9]; exact RW.out.setCell (p := ⟨g, 0, none⟩) gg _
            clear hw9 BG V6 WK VJ BO RW
            go_wp2
            go_roundw
            case rel => exact ⟨j + 1, 8, A6, by omega, by go_num, B9, W9, K9, J9, O9, R9⟩
            case measure => simp [intOf]; omega
      · obtain rfl : j = K := by omega
        have q1 : ¬ 64 * (j : Int) + 64 ≤ (m : Int) + (nb : Int) := by omega
        obtain ⟨d, hd⟩ : ∃ d, m + nb - 64 * j = d := ⟨_, rfl⟩
        have hd2 : (m + nb) % 64 = d := by omega
        have HD := Lib.hid hd2
        have s1 := run_cutFrom und_bytes size_byte (A := Aj) (n := m + nb) (c := cj) (64 * (j : Int)) (64 * j) d (cj - 64 * j) (by omega) (by omega) hd rfl
        have HC := Lib.hid (VJ.out.cutFrom (64 * j) (by omega) (d := d) (k := cj - 64 * j) hd rfl)
        rw [HVL.out] at HC
        have hfl : Hid (([(r ++ b).drop (64 * j)] : List (List UInt8)).flatten.length = d) := by have := HC.out.len; unfold Hid; simpa using this
        have hd4 : d ≤ 100000 := by omega
        clear hd hd2
        go_wp2_with fail
        refine (refJoin_any _ _ _ [(r ++ b).drop (64 * j)] _ (lists_made1 HC.out) d hfl.out (by omega)).mono ?_
        rintro e y9 ⟨A7, c7, rfl, hv, hb⟩
        have hbx : Below wr.heap.size wr y9 := below_via (by go_grown) hb (by first | (simp; done) | (simp; omega))
        have BO := Lib.hid (BO.out.stays hbx)
        have BG := Lib.hid (BG.out.stays hbx)
        have WG := Lib.hid (WG.out.stays hbx)
        have VV := Lib.hid hv
        have R10 := Lib.hid (RW.out.trans (hbx.mono hz_wr))
        have hz_y9 := R10.out.size
        clear hb hbx hv RW hz_wr
        have FV : Hid (∀ x, A7 = some x → wr.heap.size ≤ x.block) := fun x hx => by subst hx; have := (VV.out.lt x.block rfl).1; first | omega | (simp at this; omega)
        have lGw := BG.out.lt
        have HL2 : Hid (g < wr.heap.size ∧ o_ < wr.heap.size) := ⟨lGr, lOr⟩
        have VB := Lib.hid (show Bytes _ A7 d c7 ((r ++ b).drop (64 * j)) from (by have := own_rd VV.out; simpa [Bytes] using this))
        have ng : ¬ o_ = g := Nat.ne_of_lt go
        have ng2 : ¬ g = o_ := Nat.ne_of_gt go
        have kG_0 : y9.cell? ⟨g, 0, none⟩ = some (.slice AA 8 cc) := BG.out.cell 0
        have kG_1 : y9.cell? ⟨g, 1, none⟩ = some (.slice none 0 0) := BG.out.cell 1
        have kG_2 : y9.cell? ⟨g, 2, none⟩ = some (.int .i64 ((n : Int) + (nb : Int))) := BG.out.cell 2
        have kO_0 : y9.cell? ⟨o_, 0, none⟩ = some (.slice none 0 0) := BO.out.cell 0
        have kO_1 : y9.cell? ⟨o_, 1, none⟩ = some (.slice none 0 0) := BO.out.cell 1
        have kO_2 : y9.cell? ⟨o_, 2, none⟩ = some (.int .i64 0) := BO.out.cell 2
        have fO_0 := BO.out.frozen 0
        have fO_1 := BO.out.frozen 1
        have fO_2 := BO.out.frozen 2
        have fG_1 := BG.out.frozen 1
        go_wp2_with fail
        clear kG_0 kG_1 kG_2 kO_0 kO_1 kO_2 fO_0 fO_1 fO_2 fG_1
        have BO2 := BO.out.far (p := ⟨g, 1, none⟩) (Nat.ne_of_lt go) (.slice A7 d c7)
        refine bodyPost_ret (results_hs2 (r := 4) (t := 5) rfl _ rfl (store_hs BO2)) rfl ⟨AA, cc, A7, c7, by rw [HD.out]; rfl, ?_, ?_, ?_⟩
        · rw [HK.out]
          exact rd_set (rd_set (rd_set (rd_set WG.out BG.out (by simp) 1 _) BO2 (by simp) 0 _) (BO2.put 0 _) (by simp) 1 _) ((BO2.put 0 _).put 1 _) (by simp) 2 _
        · have f1 : ∀ x, A7 = some x → x.block ≠ g := fun x hx => by have h1 := FV.out x hx; have h2 := HL2.out.1; omega
          have f2 : ∀ x, A7 = some x → x.block ≠ o_ := fun x hx => by have h1 := FV.out x hx; have h2 := HL2.out.2; omega
          rw [HD.out, HK.out]
          exact rd_off (rd_off (rd_off (rd_off VB.out f1 1 _) f2 0 _) f2 1 _) f2 2 _
        · exact hs_below (R10.out.setCell (p := ⟨g, 1, none⟩) gg _) gO
end Go.Proofs.Yticknkaohjkjpaa
