/- HashSteps: the walk. -/
import Derived.Test.YticknkaohjkjpaaHsB
import Derived.Test.YticknkaohjkjpaaHashK
import Derived.Test.YticknkaohjkjpaaOpen
namespace Go.Proofs.Yticknkaohjkjpaa
open Go.RowKit

theorem st_of {lw : List Int} (h : lw.length = 8) : ∃ S, lw = stL S ∧ ((∀ x ∈ lw, InW x) → InS S) := by
  match lw, h with
  | [a, b, c, d, e, f, g, i], _ => exact ⟨⟨a, b, c, d, e, f, g, i⟩, rfl, fun h => ⟨h _ (by simp), h _ (by simp), h _ (by simp), h _ (by simp), h _ (by simp), h _ (by simp), h _ (by simp), h _ (by simp)⟩⟩
/-- What End answers. -/
def EndIs (V : Bool) (lw : List Int) (r : List UInt8) (n : Int) (ne : Nat) (K : Int) (EL : List UInt8) : Prop :=
  (V = false ∧ ne = 0 ∧ K = 3 ∧ EL = []) ∨ (V = true ∧ ne = 32 ∧ K = 0 ∧ ∃ (S : St) (k : Nat), InS S ∧ lw = stL S ∧ n = (k : Int) ∧ EL = finL S r k)
/-- What More answers. -/
def MoreIs (V : Bool) (lw : List Int) (r b : List UInt8) (m nb : Nat) (n : Int) (nw' nr' : Nat) (CN KM : Int) (WL : List Int) (RL : List UInt8) : Prop :=
  (V = false ∧ nw' = 0 ∧ nr' = 0 ∧ CN = 0 ∧ KM = 3 ∧ WL = [] ∧ RL = []) ∨ (V = true ∧ 1099511627776 < n + (nb : Int) ∧ nw' = 0 ∧ nr' = 0 ∧ CN = 0 ∧ KM = 2 ∧ WL = [] ∧ RL = []) ∨
  (V = true ∧ n + (nb : Int) ≤ 1099511627776 ∧ nw' = 8 ∧ nr' = (m + nb) % 64 ∧ CN = n + (nb : Int) ∧ KM = 0 ∧ ∃ S : St, lw = stL S ∧ WL = stL (blocksL S (r ++ b) ((m + nb) / 64)) ∧ RL = (r ++ b).drop (64 * ((m + nb) / 64)))
theorem end_ex {nw m : Nat} {n : Int} {lw : List Int} (r : List UInt8) (hl : lw.length = nw) (hi : ∀ x ∈ lw, InW x) : ∃ ne K EL, EndIs (vldH nw n m) lw r n ne K EL := by
  cases hV : vldH nw n m with
  | false => exact ⟨0, 3, [], .inl ⟨rfl, rfl, rfl, rfl⟩⟩
  | true =>
    obtain ⟨h8, h0, h1, h2⟩ := vldH_ok hV
    obtain ⟨S, hS, hSi⟩ := st_of (hl.trans h8)
    obtain ⟨k, rfl⟩ := Int.eq_ofNat_of_zero_le h0
    exact ⟨32, 0, _, .inr ⟨rfl, rfl, rfl, S, k, hSi hi, hS, rfl, rfl⟩⟩
theorem more_ex {nw m nb : Nat} {n : Int} {lw : List Int} (r b : List UInt8) (hl : lw.length = nw) : ∃ nw' nr' CN KM WL RL, MoreIs (vldH nw n m) lw r b m nb n nw' nr' CN KM WL RL := by
  cases hV : vldH nw n m with
  | false => exact ⟨0, 0, 0, 3, [], [], .inl ⟨rfl, rfl, rfl, rfl, rfl, rfl, rfl⟩⟩
  | true =>
    obtain ⟨h8, _⟩ := vldH_ok hV
    obtain ⟨S, hS, _⟩ := st_of (hl.trans h8)
    by_cases h : 1099511627776 < n + (nb : Int)
    · exact ⟨0, 0, 0, 2, [], [], .inr (.inl ⟨rfl, h, rfl, rfl, rfl, rfl, rfl, rfl⟩)⟩
    · exact ⟨8, (m + nb) % 64, n + (nb : Int), 0, _, _, .inr (.inr ⟨rfl, by omega, rfl, rfl, rfl, rfl, S, hS, rfl, rfl⟩)⟩
theorem Words.nil (w : World) : Words w none 0 0 [] := Rd.nil _ _ _ (by decide) _
section
variable (lw : List Int) (r b : List UInt8) (Aw : Option Addr) (nw cw : Nat) (Ar : Option Addr) (m cr : Nat) (n : Int) (w : World)
theorem end_all (ne : Nat) (K : Int) (EL : List UInt8) (hE : EndIs (vldH nw n m) lw r n ne K EL) (hq : nw ≤ 100) (hm : m ≤ 1000) (hw : Words w Aw nw cw lw) (hr : Bytes w Ar m cr r) :
    Calls Try.prog 39 #[.agg #[.slice Aw nw cw, .slice Ar m cr, .int .i64 n]] w fun e w' => ∃ A' c', e = .returned (.tuple #[.slice A' ne c', .int .i64 K]) ∧ Bytes w' A' ne c' EL ∧ Below w.heap.size w w' := by
  rcases hE with ⟨hV, rfl, rfl, rfl⟩ | ⟨hV, rfl, rfl, S, k, hS, rfl, rfl, rfl⟩
  · exact (end_bad Aw nw cw Ar m cr n w hq hm hV).mono fun e w' h => ⟨_, _, h.1, Bytes.nil _ _ _ (by decide), h.2⟩
  · obtain ⟨rfl, h0, h1, h2⟩ := vldH_ok hV
    exact end_go S hS r Aw cw Ar cr k m w (by omega) (by omega) hw hr
theorem refEnd_all (ne : Nat) (K : Int) (EL : List UInt8) (hE : EndIs (vldH nw n m) lw r n ne K EL) (hq : nw ≤ 100) (hm : m ≤ 1000) (hw : Words w Aw nw cw lw) (hr : Bytes w Ar m cr r) :
    Calls Try.prog 40 #[.agg #[.slice Aw nw cw, .slice Ar m cr, .int .i64 n]] w fun e w' => ∃ A' c', e = .returned (.tuple #[.slice A' ne c', .int .i64 K]) ∧ Bytes w' A' ne c' EL ∧ Below w.heap.size w w' := by
  rcases hE with ⟨hV, rfl, rfl, rfl⟩ | ⟨hV, rfl, rfl, S, k, hS, rfl, rfl, rfl⟩
  · exact (refEnd_bad Aw nw cw Ar m cr n w hq hm hV).mono fun e w' h => ⟨_, _, h.1, Bytes.nil _ _ _ (by decide), h.2⟩
  · obtain ⟨rfl, h0, h1, h2⟩ := vldH_ok hV
    exact refEnd_go S hS r Aw cw Ar cr k m w (by omega) (by omega) hw hr hV
theorem more_all (Ab : Option Addr) (nb cb nw' nr' : Nat) (CN KM : Int) (WL : List Int) (RL : List UInt8) (hM : MoreIs (vldH nw n m) lw r b m nb n nw' nr' CN KM WL RL) (hq : nw ≤ 100) (hm : m ≤ 1000) (hnb : nb ≤ 1000) (hw : Words w Aw nw cw lw) (hr : Bytes w Ar m cr r) (hb : Bytes w Ab nb cb b) :
    Calls Try.prog 37 #[.agg #[.slice Aw nw cw, .slice Ar m cr, .int .i64 n], .slice Ab nb cb] w fun e w' => ∃ Aw' cw' Ar' cr', e = .returned (.tuple #[.agg #[.slice Aw' nw' cw', .slice Ar' nr' cr', .int .i64 CN], .int .i64 KM]) ∧ Words w' Aw' nw' cw' WL ∧ Bytes w' Ar' nr' cr' RL ∧ Below w.heap.size w w' := by
  rcases hM with ⟨hV, rfl, rfl, rfl, rfl, rfl, rfl⟩ | ⟨hV, hl, rfl, rfl, rfl, rfl, rfl, rfl⟩ | ⟨hV, hl, rfl, rfl, rfl, rfl, S, rfl, rfl, rfl⟩
  · exact (more_bad Aw nw cw Ar m cr n Ab nb cb w hq hm hV).mono fun e w' h => ⟨_, _, _, _, h.1, Words.nil _, Bytes.nil _ _ _ (by decide), h.2⟩
  · exact (more_long Aw nw cw Ar m cr n Ab nb cb w hm hnb hV hl).mono fun e w' h => ⟨_, _, _, _, h.1, Words.nil _, Bytes.nil _ _ _ (by decide), h.2⟩
  · obtain ⟨rfl, h0, h1, h2⟩ := vldH_ok hV
    obtain ⟨k, rfl⟩ := Int.eq_ofNat_of_zero_le h0
    have e1 : (k + nb) % 64 = (m + nb) % 64 := by omega
    refine (more_go S r b Aw cw Ar cr k m Ab nb cb w (by omega) (by omega) (by omega) hw hr hb).mono ?_
    rintro e w' ⟨Aw', cw', Ar', cr', rfl, h3, h4, _, _, h5⟩
    rw [e1] at h4 ⊢
    exact ⟨Aw', cw', Ar', cr', rfl, h3, h4, h5⟩
theorem refMore_all (Ab : Option Addr) (nb cb nw' nr' : Nat) (CN KM : Int) (WL : List Int) (RL : List UInt8) (hM : MoreIs (vldH nw n m) lw r b m nb n nw' nr' CN KM WL RL) (hq : nw ≤ 100) (hm : m ≤ 1000) (hnb : nb ≤ 1000) (hw : Words w Aw nw cw lw) (hr : Bytes w Ar m cr r) (hb : Bytes w Ab nb cb b) :
    Calls Try.prog 38 #[.agg #[.slice Aw nw cw, .slice Ar m cr, .int .i64 n], .slice Ab nb cb] w fun e w' => ∃ Aw' cw' Ar' cr', e = .returned (.tuple #[.agg #[.slice Aw' nw' cw', .slice Ar' nr' cr', .int .i64 CN], .int .i64 KM]) ∧ Words w' Aw' nw' cw' WL ∧ Bytes w' Ar' nr' cr' RL ∧ Below w.heap.size w w' := by
  rcases hM with ⟨hV, rfl, rfl, rfl, rfl, rfl, rfl⟩ | ⟨hV, hl, rfl, rfl, rfl, rfl, rfl, rfl⟩ | ⟨hV, hl, rfl, rfl, rfl, rfl, S, rfl, rfl, rfl⟩
  · exact (refMore_bad Aw nw cw Ar m cr n Ab nb cb w hq hm hV).mono fun e w' h => ⟨_, _, _, _, h.1, Words.nil _, Bytes.nil _ _ _ (by decide), h.2⟩
  · exact (refMore_long Aw nw cw Ar m cr n Ab nb cb w hm hnb hV hl).mono fun e w' h => ⟨_, _, _, _, h.1, Words.nil _, Bytes.nil _ _ _ (by decide), h.2⟩
  · obtain ⟨rfl, h0, h1, h2⟩ := vldH_ok hV
    obtain ⟨k, rfl⟩ := Int.eq_ofNat_of_zero_le h0
    exact refMore_go S r b Aw cw Ar cr k m Ab nb cb w (by omega) hnb (by omega) hV hw hr hb
end
set_option maxRecDepth 100000 in
set_option maxHeartbeats 4000000 in
theorem sameState_all (n : Nat) (WL : List Int) (RL : List UInt8) (Aw : Option Addr) (cw : Nat) (Ar : Option Addr) (m cr : Nat) (N : Int) (Aw2 : Option Addr) (cw2 : Nat) (Ar2 : Option Addr) (cr2 : Nat) (w : World) (hw : Words w Aw n cw WL) (hr : Bytes w Ar m cr RL) (hw2 : Words w Aw2 n cw2 WL) (hr2 : Bytes w Ar2 m cr2 RL) :
    Calls Try.prog 43 #[.agg #[.slice Aw n cw, .slice Ar m cr, .int .i64 N], .agg #[.slice Aw2 n cw2, .slice Ar2 m cr2, .int .i64 N]] w fun e w' => e = .returned (.bool true) ∧ Below w.heap.size w w' := by
  have HW := Lib.hid hw
  have HR := Lib.hid hr
  have HW2 := Lib.hid hw2
  have HR2 := Lib.hid hr2
  have q1 := hw.le
  have q2 := hw.cap
  have q3 := hw2.le
  have q4 := hw2.cap
  clear hw hr hw2 hr2
  go_enter Try.func43, Try.ntmps43
  go_upto_region 1 with fail
  obtain ⟨x1, a_, c_, ex1, ea_, ec_⟩ : ∃ x1 a_ c_, x1 = (w.alloc (.cells #[.slice Aw n cw, .slice Ar m cr, .int .i64 N] 47)).alloc (.cells #[.slice Aw2 n cw2, .slice Ar2 m cr2, .int .i64 N] 47) ∧ a_ = w.heap.size ∧ c_ = w.heap.size + 1 := ⟨_, _, _, rfl, rfl, rfl⟩
  rw [← ex1, ← ec_, ← ea_]
  have hbx : Below w.heap.size w x1 := by rw [ex1]; exact below_alloc2 _ _ _ 
  have o_A_C : a_ < c_ := by omega
  have g_A : w.heap.size ≤ a_ := by rw [ea_]; exact Nat.le_refl _
  have HW := Lib.hid (HW.out.stays hbx)
  have HR := Lib.hid (HR.out.stays hbx)
  have HW2 := Lib.hid (HW2.out.stays hbx)
  have HR2 := Lib.hid (HR2.out.stays hbx)
  have BA := Lib.hid (show Blk x1 a_ 47 #[.slice Aw n cw, .slice Ar m cr, .int .i64 N] by rw [ex1, ea_]; exact blk_new2_0 _ _ _ _ _ )
  have BC := Lib.hid (show Blk x1 c_ 47 #[.slice Aw2 n cw2, .slice Ar2 m cr2, .int .i64 N] by rw [ex1, ec_]; exact blk_new2_1 _ _ _ _ _ )
  have R2 := Lib.hid hbx
  have hz_x1 := R2.out.size
  clear hbx ex1 ea_ ec_
  have kA_0 : x1.cell? ⟨a_, 0, none⟩ = some (.slice Aw n cw) := BA.out.cell 0
  have kA_1 : x1.cell? ⟨a_, 1, none⟩ = some (.slice Ar m cr) := BA.out.cell 1
  have kA_2 : x1.cell? ⟨a_, 2, none⟩ = some (.int .i64 N) := BA.out.cell 2
  have kC_0 : x1.cell? ⟨c_, 0, none⟩ = some (.slice Aw2 n cw2) := BC.out.cell 0
  have kC_1 : x1.cell? ⟨c_, 1, none⟩ = some (.slice Ar2 m cr2) := BC.out.cell 1
  have kC_2 : x1.cell? ⟨c_, 2, none⟩ = some (.int .i64 N) := BC.out.cell 2
  go_wp2_with fail
  refine (refSame_true HR.out HR2.out rfl).mono ?_
  rintro e q_ ⟨rfl, rfl⟩
  go_wp2_with fail
  clear kA_0 kA_1 kA_2 kC_0 kC_1 kC_2
  go_loopw [5] (fun i wr => ∃ j : Nat, j ≤ n ∧ i = .int .i64 j ∧ Below x1.heap.size x1 wr) (fun i _ => n - (intOf i).toNat)
  case atStart => exact ⟨0, by omega, rfl, Below.refl _ _⟩
  case round =>
    obtain ⟨j, hj, rfl, hbr⟩ := hrel
    have d0 : wr.cell? ⟨a_, 0, none⟩ = some (.slice Aw n cw) := (BA.out.stays hbr).cell 0
    have d1 : wr.cell? ⟨c_, 0, none⟩ = some (.slice Aw2 n cw2) := (BC.out.stays hbr).cell 0
    by_cases hjn : j < n
    · have hji : (j : Int) < (n : Int) := by omega
      obtain ⟨b', o', rfl, x0⟩ := (HW.out.stays hbr).at_ hjn
      obtain ⟨b2', o2', rfl, x1⟩ := (HW2.out.stays hbr).at_ hjn
      generalize wAt WL j = x at x0 x1
      go_wp2_with fail
      refine region_still (by kernel_rfl) (by kernel_rfl) ?_
      repeat still_step
      refine wpStill_nil ?_
      go_wp2
      go_roundw
      case rel => exact ⟨j + 1, by omega, by go_num, hbr.drew⟩
      case measure => simp [intOf]; omega
    · obtain rfl : j = n := by omega
      go_wp2
      go_ret
      exact ⟨rfl, R2.out.trans (hbr.mono hz_x1)⟩
set_option maxRecDepth 100000 in
set_option maxHeartbeats 4000000 in
theorem hashSteps_walk (Aw : Option Addr) (nw cw : Nat) (lw : List Int) (Ar : Option Addr) (m cr : Nat) (r : List UInt8) (n : Int) (Ab : Option Addr) (nb cb : Nat) (b : List UInt8) (w : World) (hw : Nums .u32 w Aw nw cw lw) (hr : Bytes w Ar m cr r) (hb : Bytes w Ab nb cb b) :
    Calls Try.prog 11 #[.agg #[.slice Aw nw cw, .slice Ar m cr, .int .i64 n], .slice Ab nb cb] w fun e w' => e = .returned (.bool true) ∧ Below w.heap.size w w' := by
  have hwi : ∀ x ∈ lw, InW x := fun x hx => by have h2 := bounds_u32 (hw.2 x hx); unfold InW; omega
  have hwl : Words w Aw nw cw lw := hw.1
  obtain ⟨ne, KE, EL, hE⟩ := end_ex (nw := nw) (m := m) (n := n) r hwl.len hwi
  obtain ⟨nw', nr', CN, KM, WL, RL, hM⟩ := more_ex (nw := nw) (m := m) (nb := nb) (n := n) r b hwl.len
  have HE := Lib.hid hE
  have HM := Lib.hid hM
  have HW := Lib.hid hwl
  have HR := Lib.hid hr
  have HB := Lib.hid hb
  have q1 := hwl.le
  have q2 := hwl.cap
  have q3 := hr.le
  have q4 := hr.cap
  have q5 := hb.le
  have q6 := hb.cap
  clear hw hwi hwl hr hb hE hM
  by_cases hl : nb ≤ 200 ∧ m ≤ 200 ∧ nw ≤ 20
  case neg =>
    have h3 : 200 < nb ∨ (nb ≤ 200 ∧ 200 < m) ∨ (nb ≤ 200 ∧ m ≤ 200 ∧ 20 < nw) := by omega
    clear hl
    rcases h3 with h3 | ⟨h4, h3⟩ | ⟨h4, h5, h3⟩
    all_goals
      go_enter Try.func11, Try.ntmps11
      go_upto_region 1 with fail
      obtain ⟨x1, a_, ex1, ea_⟩ : ∃ x1 a_, x1 = w.alloc (.cells #[.slice Aw nw cw, .slice Ar m cr, .int .i64 n] 47) ∧ a_ = w.heap.size := ⟨_, _, rfl, rfl⟩
      rw [← ex1, ← ea_]
      have hbx : Below w.heap.size w x1 := by rw [ex1]; exact below_alloc1 _ _ 
      have g_A : w.heap.size ≤ a_ := by rw [ea_]; exact Nat.le_refl _
      have HW := Lib.hid (HW.out.stays hbx)
      have HR := Lib.hid (HR.out.stays hbx)
      have HB := Lib.hid (HB.out.stays hbx)
      have BA := Lib.hid (show Blk x1 a_ 47 #[.slice Aw nw cw, .slice Ar m cr, .int .i64 n] by rw [ex1, ea_]; exact blk_new1_0 _ _ _ )
      have R2 := Lib.hid hbx
      have hz_x1 := R2.out.size
      clear hbx ex1 ea_
      have kA_0 : x1.cell? ⟨a_, 0, none⟩ = some (.slice Aw nw cw) := BA.out.cell 0
      have kA_1 : x1.cell? ⟨a_, 1, none⟩ = some (.slice Ar m cr) := BA.out.cell 1
      have kA_2 : x1.cell? ⟨a_, 2, none⟩ = some (.int .i64 n) := BA.out.cell 2
      go_wp2_with fail
      refine (hashKnown _).mono ?_
      rintro e y3 ⟨rfl, hb⟩
      clear kA_0 kA_1 kA_2
      have hbx : Below x1.heap.size x1 y3 := below_via (by go_grown) hb (by first | (simp; done) | (simp; omega))
      have BA := Lib.hid (BA.out.stays hbx)
      have HW := Lib.hid (HW.out.stays hbx)
      have HR := Lib.hid (HR.out.stays hbx)
      have HB := Lib.hid (HB.out.stays hbx)
      have R4 := Lib.hid (R2.out.trans (hbx.mono hz_x1))
      have hz_y3 := R4.out.size
      clear hb hbx  R2 hz_x1
      go_wp2
      go_ret
      exact ⟨rfl, R4.out⟩
  obtain ⟨l1, l2, l3⟩ := hl
  go_enter Try.func11, Try.ntmps11
  go_upto_region 1 with fail
  obtain ⟨x1, a_, ex1, ea_⟩ : ∃ x1 a_, x1 = w.alloc (.cells #[.slice Aw nw cw, .slice Ar m cr, .int .i64 n] 47) ∧ a_ = w.heap.size := ⟨_, _, rfl, rfl⟩
  rw [← ex1, ← ea_]
  have hbx : Below w.heap.size w x1 := by rw [ex1]; exact below_alloc1 _ _ 
  have g_A : w.heap.size ≤ a_ := by rw [ea_]; exact Nat.le_refl _
  have HW := Lib.hid (HW.out.stays hbx)
  have HR := Lib.hid (HR.out.stays hbx)
  have HB := Lib.hid (HB.out.stays hbx)
  have BA := Lib.hid (show Blk x1 a_ 47 #[.slice Aw nw cw, .slice Ar m cr, .int .i64 n] by rw [ex1, ea_]; exact blk_new1_0 _ _ _ )
  have R2 := Lib.hid hbx
  have hz_x1 := R2.out.size
  clear hbx ex1 ea_
  have kA_0 : x1.cell? ⟨a_, 0, none⟩ = some (.slice Aw nw cw) := BA.out.cell 0
  have kA_1 : x1.cell? ⟨a_, 1, none⟩ = some (.slice Ar m cr) := BA.out.cell 1
  have kA_2 : x1.cell? ⟨a_, 2, none⟩ = some (.int .i64 n) := BA.out.cell 2
  go_wp2_with fail
  refine (more_all lw r b Aw nw cw Ar m cr n _ Ab nb cb nw' nr' CN KM WL RL HM.out (by omega) (by omega) (by omega) HW.out HR.out HB.out).mono ?_
  rintro e y3 ⟨pW, pcw, pR, pcr, rfl, h1, h2, hb⟩
  clear kA_0 kA_1 kA_2
  have hbx : Below x1.heap.size x1 y3 := below_via (by go_grown) hb (by first | (simp; done) | (simp; omega))
  have BA := Lib.hid (BA.out.stays hbx)
  have HW := Lib.hid (HW.out.stays hbx)
  have HR := Lib.hid (HR.out.stays hbx)
  have HB := Lib.hid (HB.out.stays hbx)
  have pWW := Lib.hid h1
  have pRR := Lib.hid h2
  have R4 := Lib.hid (R2.out.trans (hbx.mono hz_x1))
  have hz_y3 := R4.out.size
  clear hb hbx h1 h2 R2 hz_x1
  go_upto_region 4 with fail
  obtain ⟨x5, x_, ex5, ex_⟩ : ∃ x5 x_, x5 = y3.alloc (.cells #[.slice pW nw' pcw, .slice pR nr' pcr, .int .i64 CN] 47) ∧ x_ = y3.heap.size := ⟨_, _, rfl, rfl⟩
  rw [← ex5, ← ex_]
  have hbx : Below y3.heap.size y3 x5 := by rw [ex5]; exact below_alloc1 _ _ 
  have o_A_X : a_ < x_ := by rw [ex_]; exact BA.out.lt
  have g_X : w.heap.size ≤ x_ := by rw [ex_]; exact hz_y3
  have BA := Lib.hid (BA.out.stays hbx)
  have HW := Lib.hid (HW.out.stays hbx)
  have HR := Lib.hid (HR.out.stays hbx)
  have HB := Lib.hid (HB.out.stays hbx)
  have pWW := Lib.hid (pWW.out.stays hbx)
  have pRR := Lib.hid (pRR.out.stays hbx)
  have BX := Lib.hid (show Blk x5 x_ 47 #[.slice pW nw' pcw, .slice pR nr' pcr, .int .i64 CN] by rw [ex5, ex_]; exact blk_new1_0 _ _ _ )
  have R6 := Lib.hid (R4.out.trans (hbx.mono hz_y3))
  have hz_x5 := R6.out.size
  clear hbx ex5 ex_ R4 hz_y3
  have kA_0 : x5.cell? ⟨a_, 0, none⟩ = some (.slice Aw nw cw) := BA.out.cell 0
  have kA_1 : x5.cell? ⟨a_, 1, none⟩ = some (.slice Ar m cr) := BA.out.cell 1
  have kA_2 : x5.cell? ⟨a_, 2, none⟩ = some (.int .i64 n) := BA.out.cell 2
  go_wp2_with fail
  refine (refMore_all lw r b Aw nw cw Ar m cr n _ Ab nb cb nw' nr' CN KM WL RL HM.out (by omega) (by omega) (by omega) HW.out HR.out HB.out).mono ?_
  rintro e y7 ⟨qW, qcw, qR, qcr, rfl, h1, h2, hb⟩
  clear kA_0 kA_1 kA_2
  have hbx : Below x5.heap.size x5 y7 := below_via (by go_grown) hb (by first | (simp; done) | (simp; omega))
  have BA := Lib.hid (BA.out.stays hbx)
  have BX := Lib.hid (BX.out.stays hbx)
  have HW := Lib.hid (HW.out.stays hbx)
  have HR := Lib.hid (HR.out.stays hbx)
  have HB := Lib.hid (HB.out.stays hbx)
  have pWW := Lib.hid (pWW.out.stays hbx)
  have pRR := Lib.hid (pRR.out.stays hbx)
  have qWW := Lib.hid h1
  have qRR := Lib.hid h2
  have R8 := Lib.hid (R6.out.trans (hbx.mono hz_x5))
  have hz_y7 := R8.out.size
  clear hb hbx h1 h2 R6 hz_x5
  go_upto_region 5 with fail
  obtain ⟨x9, y_, ex9, ey_⟩ : ∃ x9 y_, x9 = y7.alloc (.cells #[.slice qW nw' qcw, .slice qR nr' qcr, .int .i64 CN] 47) ∧ y_ = y7.heap.size := ⟨_, _, rfl, rfl⟩
  rw [← ex9, ← ey_]
  have hbx : Below y7.heap.size y7 x9 := by rw [ex9]; exact below_alloc1 _ _ 
  have o_A_Y : a_ < y_ := by rw [ey_]; exact BA.out.lt
  have o_X_Y : x_ < y_ := by rw [ey_]; exact BX.out.lt
  have g_Y : w.heap.size ≤ y_ := by rw [ey_]; exact hz_y7
  have BA := Lib.hid (BA.out.stays hbx)
  have BX := Lib.hid (BX.out.stays hbx)
  have HW := Lib.hid (HW.out.stays hbx)
  have HR := Lib.hid (HR.out.stays hbx)
  have HB := Lib.hid (HB.out.stays hbx)
  have pWW := Lib.hid (pWW.out.stays hbx)
  have pRR := Lib.hid (pRR.out.stays hbx)
  have qWW := Lib.hid (qWW.out.stays hbx)
  have qRR := Lib.hid (qRR.out.stays hbx)
  have BY := Lib.hid (show Blk x9 y_ 47 #[.slice qW nw' qcw, .slice qR nr' qcr, .int .i64 CN] by rw [ex9, ey_]; exact blk_new1_0 _ _ _ )
  have R10 := Lib.hid (R8.out.trans (hbx.mono hz_y7))
  have hz_x9 := R10.out.size
  clear hbx ex9 ey_ R8 hz_y7
  have kA_0 : x9.cell? ⟨a_, 0, none⟩ = some (.slice Aw nw cw) := BA.out.cell 0
  have kA_1 : x9.cell? ⟨a_, 1, none⟩ = some (.slice Ar m cr) := BA.out.cell 1
  have kA_2 : x9.cell? ⟨a_, 2, none⟩ = some (.int .i64 n) := BA.out.cell 2
  go_wp2_with fail
  refine (end_all lw r Aw nw cw Ar m cr n _ ne KE EL HE.out (by omega) (by omega) HW.out HR.out).mono ?_
  rintro e y11 ⟨eA, ec, rfl, h1, hb⟩
  clear kA_0 kA_1 kA_2
  have hbx : Below x9.heap.size x9 y11 := below_via (by go_grown) hb (by first | (simp; done) | (simp; omega))
  have BA := Lib.hid (BA.out.stays hbx)
  have BX := Lib.hid (BX.out.stays hbx)
  have BY := Lib.hid (BY.out.stays hbx)
  have HW := Lib.hid (HW.out.stays hbx)
  have HR := Lib.hid (HR.out.stays hbx)
  have HB := Lib.hid (HB.out.stays hbx)
  have pWW := Lib.hid (pWW.out.stays hbx)
  have pRR := Lib.hid (pRR.out.stays hbx)
  have qWW := Lib.hid (qWW.out.stays hbx)
  have qRR := Lib.hid (qRR.out.stays hbx)
  have EE := Lib.hid h1
  have R12 := Lib.hid (R10.out.trans (hbx.mono hz_x9))
  have hz_y11 := R12.out.size
  clear hb hbx h1 R10 hz_x9
  have kA_0 : y11.cell? ⟨a_, 0, none⟩ = some (.slice Aw nw cw) := BA.out.cell 0
  have kA_1 : y11.cell? ⟨a_, 1, none⟩ = some (.slice Ar m cr) := BA.out.cell 1
  have kA_2 : y11.cell? ⟨a_, 2, none⟩ = some (.int .i64 n) := BA.out.cell 2
  go_wp2_with fail
  refine (refEnd_all lw r Aw nw cw Ar m cr n _ ne KE EL HE.out (by omega) (by omega) HW.out HR.out).mono ?_
  rintro e y13 ⟨fA, fc, rfl, h1, hb⟩
  clear kA_0 kA_1 kA_2
  have hbx : Below y11.heap.size y11 y13 := below_via (by go_grown) hb (by first | (simp; done) | (simp; omega))
  have BA := Lib.hid (BA.out.stays hbx)
  have BX := Lib.hid (BX.out.stays hbx)
  have BY := Lib.hid (BY.out.stays hbx)
  have HW := Lib.hid (HW.out.stays hbx)
  have HR := Lib.hid (HR.out.stays hbx)
  have HB := Lib.hid (HB.out.stays hbx)
  have pWW := Lib.hid (pWW.out.stays hbx)
  have pRR := Lib.hid (pRR.out.stays hbx)
  have qWW := Lib.hid (qWW.out.stays hbx)
  have qRR := Lib.hid (qRR.out.stays hbx)
  have EE := Lib.hid (EE.out.stays hbx)
  have FF := Lib.hid h1
  have R14 := Lib.hid (R12.out.trans (hbx.mono hz_y11))
  have hz_y13 := R14.out.size
  clear hb hbx h1 R12 hz_y11
  obtain ⟨V, hV⟩ : ∃ V, vldH nw n m = V := ⟨_, rfl⟩
  have HV := Lib.hid hV
  clear hV
  have v1 : (V == V) = true := by cases V <;> rfl
  have v2 : (KM == KM) = true := by simp
  have v3 : (KE == KE) = true := by simp
  go_upto_region 7 with fail
  refine zBegin (Z := []) (S := fun w' => Below y13.heap.size y13 w') (by kernel_rfl) ?pz1 ((Below.refl y13.heap.size y13).drew) (fun hPQ wd hbd hHeld => ?sz1)
  case pz1 => (repeat (with_reducible first | refine PQ.then ?_ | refine PQ.block ?_)); exact fun _ _ d _ _ h => by cases d <;> exact h
  case sz1 =>
    clear hbd
    refine zMake (j := 0) (d := (some 51)) (R := fun v w' => v = .bool true ∧ Below wd.heap.size wd w') rfl rfl (by kernel_rfl) (by rfl) ((hashKnown _).mono fun e q hq => ⟨_, hq.1, rfl, hq.2⟩) (by go_simp) ?_
    rintro v u1 ⟨rfl, hbm⟩
    refine ⟨below_via hHeld hbm hHeld.size, ?_⟩
    try simp only [Act.put, List.setIfInBounds_toArray, List.set_cons_zero, List.set_cons_succ]
    have hHeld := below_via hHeld hbm hHeld.size
    clear hbm
    refine zVal (i := 1) (d := (some 52)) (v := ?_) rfl rfl (by kernel_rfl) (by kernel_rfl) (by kernel_rfl) (by kernel_rfl) hPQ (by rfl) (fun wq hSw => ?_) hHeld ?_
    rotate_left 1
    · have cA := (BA.out.stays hSw).cell; have cX := (BX.out.stays hSw).cell; have cY := (BY.out.stays hSw).cell; replace hSw := hSw.size; go_simp; try with_reducible rfl
    try simp only [Act.put, List.setIfInBounds_toArray, List.set_cons_zero, List.set_cons_succ]
    refine zVal (i := 2) (d := (some 53)) (v := ?_) rfl rfl (by kernel_rfl) (by kernel_rfl) (by kernel_rfl) (by kernel_rfl) hPQ (by rfl) (fun wq hSw => ?_) hHeld ?_
    rotate_left 1
    · have cA := (BA.out.stays hSw).cell; have cX := (BX.out.stays hSw).cell; have cY := (BY.out.stays hSw).cell; replace hSw := hSw.size; go_simp; try with_reducible rfl
    try simp only [Act.put, List.setIfInBounds_toArray, List.set_cons_zero, List.set_cons_succ]
    refine zVal (i := 4) (d := (some 55)) (v := ?_) rfl rfl (by kernel_rfl) (by kernel_rfl) (by kernel_rfl) (by kernel_rfl) hPQ (by rfl) (fun wq hSw => ?_) hHeld ?_
    rotate_left 1
    · have cA := (BA.out.stays hSw).cell; have cX := (BX.out.stays hSw).cell; have cY := (BY.out.stays hSw).cell; replace hSw := hSw.size; go_simp; try with_reducible rfl
    try simp only [Act.put, List.setIfInBounds_toArray, List.set_cons_zero, List.set_cons_succ]
    refine zMake (j := 3) (d := (some 54)) (R := fun v w' => v = .bool V ∧ Below u1.heap.size u1 w') rfl rfl (by kernel_rfl) (by rfl) ((validH_any Aw nw cw Ar m cr n _ (by omega) (by omega)).mono fun e q hq => ⟨_, hq.1, by rw [HV.out], hq.2⟩) (by go_simp) ?_
    rintro v u2 ⟨rfl, hbm⟩
    refine ⟨below_via hHeld hbm hHeld.size, ?_⟩
    try simp only [Act.put, List.setIfInBounds_toArray, List.set_cons_zero, List.set_cons_succ]
    have hHeld := below_via hHeld hbm hHeld.size
    clear hbm
    refine zMake (j := 5) (d := (some 56)) (R := fun v w' => v = .bool V ∧ Below u2.heap.size u2 w') rfl rfl (by kernel_rfl) (by rfl) ((refValidH_any Aw nw cw Ar m cr n _ (by omega) (by omega)).mono fun e q hq => ⟨_, hq.1, by rw [HV.out], hq.2⟩) (by go_simp) ?_
    rintro v u3 ⟨rfl, hbm⟩
    refine ⟨below_via hHeld hbm hHeld.size, ?_⟩
    try simp only [Act.put, List.setIfInBounds_toArray, List.set_cons_zero, List.set_cons_succ]
    have hHeld := below_via hHeld hbm hHeld.size
    clear hbm
    refine zVal (i := 6) (d := (some 57)) (v := ?_) rfl rfl (by kernel_rfl) (by kernel_rfl) (by kernel_rfl) (by kernel_rfl) hPQ (by rfl) (fun wq hSw => ?_) hHeld ?_
    rotate_left 1
    · have cA := (BA.out.stays hSw).cell; have cX := (BX.out.stays hSw).cell; have cY := (BY.out.stays hSw).cell; replace hSw := hSw.size; go_simp; try with_reducible rfl
    try simp only [Act.put, List.setIfInBounds_toArray, List.set_cons_zero, List.set_cons_succ]
    refine zVal (i := 7) (d := (some 58)) (v := ?_) rfl rfl (by kernel_rfl) (by kernel_rfl) (by kernel_rfl) (by kernel_rfl) hPQ (by rfl) (fun wq hSw => ?_) hHeld ?_
    rotate_left 1
    · have cA := (BA.out.stays hSw).cell; have cX := (BX.out.stays hSw).cell; have cY := (BY.out.stays hSw).cell; replace hSw := hSw.size; go_simp; try with_reducible rfl
    try simp only [Act.put, List.setIfInBounds_toArray, List.set_cons_zero, List.set_cons_succ]
    refine zVal (i := 8) (d := (some 59)) (v := ?_) rfl rfl (by kernel_rfl) (by kernel_rfl) (by kernel_rfl) (by kernel_rfl) hPQ (by rfl) (fun wq hSw => ?_) hHeld ?_
    rotate_left 1
    · have cA := (BA.out.stays hSw).cell; have cX := (BX.out.stays hSw).cell; have cY := (BY.out.stays hSw).cell; replace hSw := hSw.size; go_simp; try with_reducible rfl
    try simp only [Act.put, List.setIfInBounds_toArray, List.set_cons_zero, List.set_cons_succ]
    refine zVal (i := 9) (d := (some 60)) (v := ?_) rfl rfl (by kernel_rfl) (by kernel_rfl) (by kernel_rfl) (by kernel_rfl) hPQ (by rfl) (fun wq hSw => ?_) hHeld ?_
    rotate_left 1
    · have cA := (BA.out.stays hSw).cell; have cX := (BX.out.stays hSw).cell; have cY := (BY.out.stays hSw).cell; replace hSw := hSw.size; go_simp; try with_reducible rfl
    try simp only [Act.put, List.setIfInBounds_toArray, List.set_cons_zero, List.set_cons_succ]
    refine zVal (i := 10) (d := (some 61)) (v := ?_) rfl rfl (by kernel_rfl) (by kernel_rfl) (by kernel_rfl) (by kernel_rfl) hPQ (by rfl) (fun wq hSw => ?_) hHeld ?_
    rotate_left 1
    · have cA := (BA.out.stays hSw).cell; have cX := (BX.out.stays hSw).cell; have cY := (BY.out.stays hSw).cell; replace hSw := hSw.size; go_simp; try with_reducible rfl
    try simp only [Act.put, List.setIfInBounds_toArray, List.set_cons_zero, List.set_cons_succ]
    refine zVal (i := 11) (d := (some 62)) (v := ?_) rfl rfl (by kernel_rfl) (by kernel_rfl) (by kernel_rfl) (by kernel_rfl) hPQ (by rfl) (fun wq hSw => ?_) hHeld ?_
    rotate_left 1
    · have cA := (BA.out.stays hSw).cell; have cX := (BX.out.stays hSw).cell; have cY := (BY.out.stays hSw).cell; replace hSw := hSw.size; go_simp; try with_reducible rfl
    try simp only [Act.put, List.setIfInBounds_toArray, List.set_cons_zero, List.set_cons_succ]
    refine zVal (i := 12) (d := (some 63)) (v := ?_) rfl rfl (by kernel_rfl) (by kernel_rfl) (by kernel_rfl) (by kernel_rfl) hPQ (by rfl) (fun wq hSw => ?_) hHeld ?_
    rotate_left 1
    · have cA := (BA.out.stays hSw).cell; have cX := (BX.out.stays hSw).cell; have cY := (BY.out.stays hSw).cell; replace hSw := hSw.size; go_simp; try with_reducible rfl
    try simp only [Act.put, List.setIfInBounds_toArray, List.set_cons_zero, List.set_cons_succ]
    refine zVal (i := 13) (d := (some 64)) (v := ?_) rfl rfl (by kernel_rfl) (by kernel_rfl) (by kernel_rfl) (by kernel_rfl) hPQ (by rfl) (fun wq hSw => ?_) hHeld ?_
    rotate_left 1
    · have cA := (BA.out.stays hSw).cell; have cX := (BX.out.stays hSw).cell; have cY := (BY.out.stays hSw).cell; replace hSw := hSw.size; go_simp; try with_reducible rfl
    try simp only [Act.put, List.setIfInBounds_toArray, List.set_cons_zero, List.set_cons_succ]
    refine zVal (i := 14) (d := (some 65)) (v := ?_) rfl rfl (by kernel_rfl) (by kernel_rfl) (by kernel_rfl) (by kernel_rfl) hPQ (by rfl) (fun wq hSw => ?_) hHeld ?_
    rotate_left 1
    · have cA := (BA.out.stays hSw).cell; have cX := (BX.out.stays hSw).cell; have cY := (BY.out.stays hSw).cell; replace hSw := hSw.size; go_simp; try with_reducible rfl
    try simp only [Act.put, List.setIfInBounds_toArray, List.set_cons_zero, List.set_cons_succ]
    refine zVal (i := 15) (d := (some 66)) (v := ?_) rfl rfl (by kernel_rfl) (by kernel_rfl) (by kernel_rfl) (by kernel_rfl) hPQ (by rfl) (fun wq hSw => ?_) hHeld ?_
    rotate_left 1
    · have cA := (BA.out.stays hSw).cell; have cX := (BX.out.stays hSw).cell; have cY := (BY.out.stays hSw).cell; replace hSw := hSw.size; go_simp; try with_reducible rfl
    try simp only [Act.put, List.setIfInBounds_toArray, List.set_cons_zero, List.set_cons_succ]
    refine zMake (j := 16) (d := (some 67)) (R := fun v w' => v = .bool true ∧ Below u3.heap.size u3 w') rfl rfl (by kernel_rfl) (by rfl) ((sameState_all nw' WL RL pW pcw pR nr' pcr CN qW qcw qR qcr _ (pWW.out.stays hHeld) (pRR.out.stays hHeld) (qWW.out.stays hHeld) (qRR.out.stays hHeld)).mono fun e q hq => ⟨_, hq.1, rfl, hq.2⟩) (by go_simp) ?_
    rintro v u4 ⟨rfl, hbm⟩
    refine ⟨below_via hHeld hbm hHeld.size, ?_⟩
    try simp only [Act.put, List.setIfInBounds_toArray, List.set_cons_zero, List.set_cons_succ]
    have hHeld := below_via hHeld hbm hHeld.size
    clear hbm
    refine zVal (i := 17) (d := (some 68)) (v := ?_) rfl rfl (by kernel_rfl) (by kernel_rfl) (by kernel_rfl) (by kernel_rfl) hPQ (by rfl) (fun wq hSw => ?_) hHeld ?_
    rotate_left 1
    · have cA := (BA.out.stays hSw).cell; have cX := (BX.out.stays hSw).cell; have cY := (BY.out.stays hSw).cell; replace hSw := hSw.size; go_simp; try with_reducible rfl
    try simp only [Act.put, List.setIfInBounds_toArray, List.set_cons_zero, List.set_cons_succ]
    refine zVal (i := 18) (d := (some 69)) (v := ?_) rfl rfl (by kernel_rfl) (by kernel_rfl) (by kernel_rfl) (by kernel_rfl) hPQ (by rfl) (fun wq hSw => ?_) hHeld ?_
    rotate_left 1
    · have cA := (BA.out.stays hSw).cell; have cX := (BX.out.stays hSw).cell; have cY := (BY.out.stays hSw).cell; replace hSw := hSw.size; go_simp; try with_reducible rfl
    try simp only [Act.put, List.setIfInBounds_toArray, List.set_cons_zero, List.set_cons_succ]
    refine zVal (i := 19) (d := (some 70)) (v := ?_) rfl rfl (by kernel_rfl) (by kernel_rfl) (by kernel_rfl) (by kernel_rfl) hPQ (by rfl) (fun wq hSw => ?_) hHeld ?_
    rotate_left 1
    · have cA := (BA.out.stays hSw).cell; have cX := (BX.out.stays hSw).cell; have cY := (BY.out.stays hSw).cell; replace hSw := hSw.size; go_simp; try with_reducible rfl
    try simp only [Act.put, List.setIfInBounds_toArray, List.set_cons_zero, List.set_cons_succ]
    refine zVal (i := 20) (d := (some 71)) (v := ?_) rfl rfl (by kernel_rfl) (by kernel_rfl) (by kernel_rfl) (by kernel_rfl) hPQ (by rfl) (fun wq hSw => ?_) hHeld ?_
    rotate_left 1
    · have cA := (BA.out.stays hSw).cell; have cX := (BX.out.stays hSw).cell; have cY := (BY.out.stays hSw).cell; replace hSw := hSw.size; go_simp; try with_reducible rfl
    try simp only [Act.put, List.setIfInBounds_toArray, List.set_cons_zero, List.set_cons_succ]
    refine zVal (i := 21) (d := (some 72)) (v := ?_) rfl rfl (by kernel_rfl) (by kernel_rfl) (by kernel_rfl) (by kernel_rfl) hPQ (by rfl) (fun wq hSw => ?_) hHeld ?_
    rotate_left 1
    · have cA := (BA.out.stays hSw).cell; have cX := (BX.out.stays hSw).cell; have cY := (BY.out.stays hSw).cell; replace hSw := hSw.size; go_simp; try with_reducible rfl
    try simp only [Act.put, List.setIfInBounds_toArray, List.set_cons_zero, List.set_cons_succ]
    refine zVal (i := 22) (d := (some 73)) (v := ?_) rfl rfl (by kernel_rfl) (by kernel_rfl) (by kernel_rfl) (by kernel_rfl) hPQ (by rfl) (fun wq hSw => ?_) hHeld ?_
    rotate_left 1
    · have cA := (BA.out.stays hSw).cell; have cX := (BX.out.stays hSw).cell; have cY := (BY.out.stays hSw).cell; replace hSw := hSw.size; go_simp; try with_reducible rfl
    try simp only [Act.put, List.setIfInBounds_toArray, List.set_cons_zero, List.set_cons_succ]
    refine zVal (i := 23) (d := (some 74)) (v := ?_) rfl rfl (by kernel_rfl) (by kernel_rfl) (by kernel_rfl) (by kernel_rfl) hPQ (by rfl) (fun wq hSw => ?_) hHeld ?_
    rotate_left 1
    · have cA := (BA.out.stays hSw).cell; have cX := (BX.out.stays hSw).cell; have cY := (BY.out.stays hSw).cell; replace hSw := hSw.size; go_simp; try with_reducible rfl
    try simp only [Act.put, List.setIfInBounds_toArray, List.set_cons_zero, List.set_cons_succ]
    refine zVal (i := 24) (d := (some 75)) (v := ?_) rfl rfl (by kernel_rfl) (by kernel_rfl) (by kernel_rfl) (by kernel_rfl) hPQ (by rfl) (fun wq hSw => ?_) hHeld ?_
    rotate_left 1
    · have cA := (BA.out.stays hSw).cell; have cX := (BX.out.stays hSw).cell; have cY := (BY.out.stays hSw).cell; replace hSw := hSw.size; go_simp; try with_reducible rfl
    try simp only [Act.put, List.setIfInBounds_toArray, List.set_cons_zero, List.set_cons_succ]
    refine zVal (i := 25) (d := (some 76)) (v := ?_) rfl rfl (by kernel_rfl) (by kernel_rfl) (by kernel_rfl) (by kernel_rfl) hPQ (by rfl) (fun wq hSw => ?_) hHeld ?_
    rotate_left 1
    · have cA := (BA.out.stays hSw).cell; have cX := (BX.out.stays hSw).cell; have cY := (BY.out.stays hSw).cell; replace hSw := hSw.size; go_simp; try with_reducible rfl
    try simp only [Act.put, List.setIfInBounds_toArray, List.set_cons_zero, List.set_cons_succ]
    refine zCall (i := 26) (d := (some 77)) rfl rfl (by kernel_rfl) (by kernel_rfl) (by kernel_rfl) (by kernel_rfl) hPQ (by rfl) (fun wq hSw => (refSame_true (EE.out.stays hSw) (FF.out.stays hSw) rfl).mono (fun e q hq => ⟨hq.1, by first | exact hq.2 | exact hq.2.symm⟩)) (fun wq hSw => ?_) hHeld ?_
    · go_simp
    try simp only [Act.put, List.setIfInBounds_toArray, List.set_cons_zero, List.set_cons_succ]
    refine zVal (i := 27) (d := (some 78)) (v := ?_) rfl rfl (by kernel_rfl) (by kernel_rfl) (by kernel_rfl) (by kernel_rfl) hPQ (by rfl) (fun wq hSw => ?_) hHeld ?_
    rotate_left 1
    · have cA := (BA.out.stays hSw).cell; have cX := (BX.out.stays hSw).cell; have cY := (BY.out.stays hSw).cell; replace hSw := hSw.size; go_simp; try with_reducible rfl
    try simp only [Act.put, List.setIfInBounds_toArray, List.set_cons_zero, List.set_cons_succ]
    refine zVal (i := 28) (d := (some 4)) (v := ?_) rfl rfl (by kernel_rfl) (by kernel_rfl) (by kernel_rfl) (by kernel_rfl) hPQ (by rfl) (fun wq hSw => ?_) hHeld ?_
    rotate_left 1
    · have cA := (BA.out.stays hSw).cell; have cX := (BX.out.stays hSw).cell; have cY := (BY.out.stays hSw).cell; replace hSw := hSw.size; go_simp; try with_reducible rfl
    try simp only [Act.put, List.setIfInBounds_toArray, List.set_cons_zero, List.set_cons_succ]
    refine zDone (by kernel_rfl) ?_ _
    go_wp2
    go_ret
    exact ⟨rfl, R14.out.trans (hHeld.mono hz_y13)⟩
end Go.Proofs.Yticknkaohjkjpaa
