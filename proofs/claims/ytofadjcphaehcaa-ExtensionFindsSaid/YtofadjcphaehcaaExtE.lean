/- Decode, Places, Find and Same of extension fields; the reference's Find. -/
import Derived.Test.YtofadjcphaehcaaExtD
import Derived.Test.YtofadjcphaehcaaSameF
import Derived.Test.YtofadjcphaehcaaEq
namespace Go.Proofs.Ytofadjcphaehcaa
open Go.RowKit

def IntsL (w : World) (A : Option Addr) (n c : Nat) (l : List Nat) : Prop := Rd w 1 A n c (l.map fun (x : Nat) => Value.int .i64 (x : Int))
theorem IntsL.stays {w w' : World} {A : Option Addr} {n c : Nat} {l : List Nat} (h : IntsL w A n c l) (hb : Below w.heap.size w w') : IntsL w' A n c l := Rd.stays h hb
theorem IntsL.len {w : World} {A : Option Addr} {n c : Nat} {l : List Nat} (h : IntsL w A n c l) : l.length = n := by have := h.1; simpa using this
theorem IntsA.rd {w : World} {B n c : Nat} {A : Option Addr} {l : List Nat} (h : IntsA w B A n c l) : IntsL w A n c l := own_rd h
def decL (R : Int × List (Nat × (Int × List UInt8))) : List (Int × List UInt8) := if R.1 = 0 then flX R.2 else []
def plcL (R : Int × List (Nat × (Int × List UInt8))) : List Nat := if R.1 = 0 then plX R.2 else []
set_option maxRecDepth 100000 in
set_option maxHeartbeats 4000000 in
theorem decode_any (A : Option Addr) (n c : Nat) (l : List UInt8) (w : World) (hb : Bytes w A n c l) :
    Calls Try.prog 30 #[.slice A n c] w fun e w' => ∃ A' m c', e = .returned (.tuple #[.slice A' m c', .int .i64 (readX l).1]) ∧ FldL w' A' m c' (decL (readX l)) ∧ Below w.heap.size w w' := by
  have HB := Lib.hid hb
  obtain ⟨R, hR⟩ : ∃ R, readX l = R := ⟨_, rfl⟩
  rw [hR]
  have HR := Lib.hid hR
  clear hb hR
  go_enter Try.func30, Try.ntmps30
  go_upto_region 2 with fail
  obtain ⟨x1, o_, ex1, eo_⟩ : ∃ x1 o_, x1 = w.alloc (.cells #[.slice none 0 0] 32) ∧ o_ = w.heap.size := ⟨_, _, rfl, rfl⟩
  rw [← ex1, ← eo_]
  have hbx : Below w.heap.size w x1 := by rw [ex1]; exact below_alloc1 _ _ 
  have g_O : w.heap.size ≤ o_ := by rw [eo_]; exact Nat.le_refl _
  have BO := Lib.hid (show Blk x1 o_ 32 #[.slice none 0 0] by rw [ex1, eo_]; exact blk_new1_0 _ _ _ )
  have R2 := Lib.hid hbx
  have hz_x1 := R2.out.size
  clear hbx ex1 eo_
  go_wp2_with fail
  refine (scanD o_ A n c l w _ HB.out R2.out BO.out g_O).mono ?_
  rw [HR.out]
  rintro e w2 ⟨rfl, AO, mo, co, fs', hB, hO, hF, hb⟩
  have BO := Lib.hid hB
  have HO := Lib.hid hO
  have RB := Lib.hid hb
  have HF := Lib.hid hF
  clear hB hO hF hb
  obtain ⟨er, her⟩ : ∃ er, R.1 = er := ⟨_, rfl⟩
  rw [her]
  have HER := Lib.hid her
  clear her
  by_cases h0 : er = 0
  · subst h0
    have HD : Hid (decL R = fs') := by rw [Hid, decL, if_pos HER.out, HF.out HER.out]
    have kO : w2.cell? ⟨o_, 0, none⟩ = some (.slice AO mo co) := BO.out.cell 0
    go_wp2
    go_returns
    exact ⟨AO, mo, co, by rw [HER.out]; rfl, by rw [HD.out]; exact HO.out.flds, RB.out⟩
  · have HD : Hid (decL R = []) := by rw [Hid, decL, if_neg (by rw [HER.out]; exact h0)]
    have e1 : (er == 0) = false := by simpa using h0
    have e2 : (er != 0) = true := by simp [bne, e1]
    clear h0
    go_wp2
    go_returns
    exact ⟨none, 0, 0, by rw [HER.out]; rfl, by rw [HD.out]; exact FldL.nil _, RB.out⟩
set_option maxRecDepth 100000 in
set_option maxHeartbeats 4000000 in
theorem places_any (A : Option Addr) (n c : Nat) (l : List UInt8) (w : World) (hb : Bytes w A n c l) :
    Calls Try.prog 34 #[.slice A n c] w fun e w' => ∃ A' m c', e = .returned (.tuple #[.slice A' m c', .int .i64 (readX l).1]) ∧ IntsL w' A' m c' (plcL (readX l)) ∧ Below w.heap.size w w' := by
  have HB := Lib.hid hb
  obtain ⟨R, hR⟩ : ∃ R, readX l = R := ⟨_, rfl⟩
  rw [hR]
  have HR := Lib.hid hR
  clear hb hR
  go_enter Try.func34, Try.ntmps34
  go_upto_region 2 with fail
  obtain ⟨x1, o_, ex1, eo_⟩ : ∃ x1 o_, x1 = w.alloc (.cells #[.slice none 0 0] 34) ∧ o_ = w.heap.size := ⟨_, _, rfl, rfl⟩
  rw [← ex1, ← eo_]
  have hbx : Below w.heap.size w x1 := by rw [ex1]; exact below_alloc1 _ _ 
  have g_O : w.heap.size ≤ o_ := by rw [eo_]; exact Nat.le_refl _
  have BO := Lib.hid (show Blk x1 o_ 34 #[.slice none 0 0] by rw [ex1, eo_]; exact blk_new1_0 _ _ _ )
  have R2 := Lib.hid hbx
  have hz_x1 := R2.out.size
  clear hbx ex1 eo_
  go_wp2_with fail
  refine (scanP o_ A n c l w _ HB.out R2.out BO.out g_O).mono ?_
  rw [HR.out]
  rintro e w2 ⟨rfl, AO, mo, co, fs', hB, hO, hF, hb⟩
  have BO := Lib.hid hB
  have HO := Lib.hid hO
  have RB := Lib.hid hb
  have HF := Lib.hid hF
  clear hB hO hF hb
  obtain ⟨er, her⟩ : ∃ er, R.1 = er := ⟨_, rfl⟩
  rw [her]
  have HER := Lib.hid her
  clear her
  by_cases h0 : er = 0
  · subst h0
    have HD : Hid (plcL R = fs') := by rw [Hid, plcL, if_pos HER.out, HF.out HER.out]
    have kO : w2.cell? ⟨o_, 0, none⟩ = some (.slice AO mo co) := BO.out.cell 0
    go_wp2
    go_returns
    exact ⟨AO, mo, co, by rw [HER.out]; rfl, by rw [HD.out]; exact HO.out.rd, RB.out⟩
  · have HD : Hid (plcL R = []) := by rw [Hid, plcL, if_neg (by rw [HER.out]; exact h0)]
    have e1 : (er == 0) = false := by simpa using h0
    have e2 : (er != 0) = true := by simp [bne, e1]
    clear h0
    go_wp2
    go_returns
    exact ⟨none, 0, 0, by rw [HER.out]; rfl, by rw [HD.out]; exact Rd.nil _ _ _ (by decide) _, RB.out⟩
/-- The places of the fields of a type, among the first k. -/
def findX (fs : List (Int × List UInt8)) (kd : Int) (k : Nat) : List Nat := (List.range k).filter fun i => decide (fldT fs i = kd)
theorem findX_yes {fs : List (Int × List UInt8)} {kd : Int} {k : Nat} (h : fldT fs k = kd) : findX fs kd (k + 1) = findX fs kd k ++ [k] := by
  rw [findX, List.range_succ, List.filter_append]; simp [findX, h]
theorem findX_no {fs : List (Int × List UInt8)} {kd : Int} {k : Nat} (h : ¬ fldT fs k = kd) : findX fs kd (k + 1) = findX fs kd k := by
  rw [findX, List.range_succ, List.filter_append]; simp [findX, h]
theorem findX_le (fs : List (Int × List UInt8)) (kd : Int) (k : Nat) : (findX fs kd k).length ≤ k := by
  have := List.length_filter_le (fun i => decide (fldT fs i = kd)) (List.range k)
  simpa [findX] using this
set_option maxRecDepth 100000 in
set_option maxHeartbeats 4000000 in
theorem find_any (A : Option Addr) (n c : Nat) (fs : List (Int × List UInt8)) (kd : Int) (w : World) (hv : FldL w A n c fs) (hn : n ≤ 1000000) :
    Calls Try.prog 22 #[.slice A n c, .int .i64 kd] w fun e w' => ∃ A' m c', e = .returned (.slice A' m c') ∧ IntsL w' A' m c' (findX fs kd n) ∧ Below w.heap.size w w' := by
  obtain ⟨i0, hi, hz0, hz1, hz2⟩ := info_parts infoInt
  have hcap := hv.cap
  have hle := hv.le
  have HL := Lib.hid hv.len
  have HV := Lib.hid hv
  clear hv
  go_enter Try.func22, Try.ntmps22
  go_wp2
  go_loopw [5, 10] (fun s i wr => ∃ (k mo co : Nat) (AO : Option Addr), k ≤ n ∧ i = .int .i64 k ∧ s = .slice AO mo co ∧ mo ≤ k ∧ Hid (IntsA wr w.heap.size AO mo co (findX fs kd k)) ∧ Below w.heap.size w wr) (fun _ i _ => n - (intOf i).toNat)
  case atStart => exact ⟨0, 0, 0, none, Nat.zero_le _, rfl, rfl, Nat.le_refl _, own_nil _ _ _ _, Below.refl _ _⟩
  case round =>
    obtain ⟨k, mo, co, AO, hk, rfl, rfl, hmk, HO, hbr⟩ := hrel
    have hz_wr := hbr.size
    have RW := Lib.hid hbr
    by_cases hkn : k < n
    ·
      have hki : (k : Int) < (n : Int) := by omega
      obtain ⟨bb, off, A', n', c', rfl, hc0, hc1, hy⟩ := (HV.out.stays hbr).at_ hkn
      obtain ⟨t, ht⟩ : ∃ t, fldT fs k = t := ⟨_, rfl⟩
      rw [ht] at hc0
      have HT := Lib.hid ht
      clear hy hbr ht
      by_cases hkd : t = kd
      ·
        subst hkd
        have HF := Lib.hid (findX_yes HT.out)
        go_upto_region 5 with fail
        obtain ⟨x1, f_, ex1, ef_⟩ : ∃ x1 f_, x1 = wr.alloc (.cells #[.int .i64 t, .slice A' n' c'] 38) ∧ f_ = wr.heap.size := ⟨_, _, rfl, rfl⟩
        rw [← ex1, ← ef_]
        have hbx : Below wr.heap.size wr x1 := by rw [ex1]; exact below_alloc1 _ _ 
        have g_F : w.heap.size ≤ f_ := by rw [ef_]; exact hz_wr
        have HO := Lib.hid (own_below HO.out hbx)
        have BF := Lib.hid (show Blk x1 f_ 38 #[.int .i64 t, .slice A' n' c'] by rw [ex1, ef_]; exact blk_new1_0 _ _ _ )
        have R2 := Lib.hid (RW.out.trans (hbx.mono hz_wr))
        have hz_x1 := R2.out.size
        clear hbx ex1 ef_ RW hz_wr
        have kF_0 : x1.cell? ⟨f_, 0, none⟩ = some (.int .i64 t) := BF.out.cell 0
        have kF_1 : x1.cell? ⟨f_, 1, none⟩ = some (.slice A' n' c') := BF.out.cell 1
        have hc1 : mo + 1 ≤ maxLen := by unfold maxLen; omega
        have hc2 : (mo + 1) * 8 ≤ 140737488355328 := by omega
        go_wp2_with (at_builtin; refine wpList_append_rd rfl _ _ 34 rfl i0 (.int .i64 0) 8 Try.underlying34 hi hz0 hz1 hz2 rfl (by decide) rfl (own_below HO.out (Below.alloc (Below.refl x1.heap.size x1) (Nat.le_refl _) (.cells #[.int .i64 (k : Int)] 3))) rfl (rd_one _ (.int .i64 (k : Int)) _) (by intro u hu; simp at hu; subst hu; rfl) hc1 hc2 (by have := R2.out.size; simp; omega) ?_; intro A8 c8 w8 hown8 hg8 hb8; have HG8 := Lib.hid hb8; have HO8 := Lib.hid hown8; clear hg8 hb8 hown8)
        clear kF_0 kF_1
        have RX := (R2.out.alloc R2.out.size _).trans HG8.out
        have O8 : Hid (IntsA w8 w.heap.size A8 (mo + 1) c8 (findX fs t (k + 1))) := by rw [Hid, HF.out, IntsA, List.map_append]; exact HO8.out
        clear HO8 HG8
        go_wp2
        go_roundw
        case rel => exact ⟨k + 1, mo + 1, c8, A8, by omega, by go_num, rfl, by omega, O8, RX⟩
        case measure => simp [intOf]; omega
      have hkb : (t == kd) = false := by simpa using hkd
      have HF := Lib.hid (findX_no (show ¬ fldT fs k = kd by rw [HT.out]; exact hkd))
      clear hkd
      go_upto_region 5 with fail
      obtain ⟨x3, f_, ex3, ef_⟩ : ∃ x3 f_, x3 = wr.alloc (.cells #[.int .i64 t, .slice A' n' c'] 38) ∧ f_ = wr.heap.size := ⟨_, _, rfl, rfl⟩
      rw [← ex3, ← ef_]
      have hbx : Below wr.heap.size wr x3 := by rw [ex3]; exact below_alloc1 _ _ 
      have g_F : w.heap.size ≤ f_ := by rw [ef_]; exact hz_wr
      have HO := Lib.hid (own_below HO.out hbx)
      have BF := Lib.hid (show Blk x3 f_ 38 #[.int .i64 t, .slice A' n' c'] by rw [ex3, ef_]; exact blk_new1_0 _ _ _ )
      have R4 := Lib.hid (RW.out.trans (hbx.mono hz_wr))
      have hz_x3 := R4.out.size
      clear hbx ex3 ef_ RW hz_wr
      have kF_0 : x3.cell? ⟨f_, 0, none⟩ = some (.int .i64 t) := BF.out.cell 0
      have kF_1 : x3.cell? ⟨f_, 1, none⟩ = some (.slice A' n' c') := BF.out.cell 1
      go_wp2
      go_roundw
      case rel => exact ⟨k + 1, mo, co, AO, by omega, by go_num, rfl, by omega, by rw [HF.out]; exact HO, R4.out⟩
      case measure => simp [intOf]; omega
    · obtain rfl : k = n := by omega
      go_wp2
      go_ret
      exact ⟨AO, mo, co, rfl, HO.out.rd, RW.out⟩
set_option maxRecDepth 100000 in
set_option maxHeartbeats 4000000 in
theorem refFind_any (A : Option Addr) (n c : Nat) (fs : List (Int × List UInt8)) (kd : Int) (w : World) (hv : FldL w A n c fs) (hn : n ≤ 1000000) :
    Calls Try.prog 53 #[.slice A n c, .int .i64 kd] w fun e w' => ∃ A' m c', e = .returned (.slice A' m c') ∧ IntsL w' A' m c' (findX fs kd n) ∧ Below w.heap.size w w' := by
  obtain ⟨i0, hi, hz0, hz1, hz2⟩ := info_parts infoInt
  have hcap := hv.cap
  have hle := hv.le
  have HL := Lib.hid hv.len
  have HV := Lib.hid hv
  clear hv
  go_enter Try.func53, Try.ntmps53
  go_wp2
  go_loopw [5, 6] (fun s i wr => ∃ (k mo co : Nat) (AO : Option Addr), k ≤ n ∧ i = .int .i64 k ∧ s = .slice AO mo co ∧ mo ≤ k ∧ Hid (IntsA wr w.heap.size AO mo co (findX fs kd k)) ∧ Below w.heap.size w wr) (fun _ i _ => n - (intOf i).toNat)
  case atStart => exact ⟨0, 0, 0, none, Nat.zero_le _, rfl, rfl, Nat.le_refl _, own_nil _ _ _ _, Below.refl _ _⟩
  case round =>
    obtain ⟨k, mo, co, AO, hk, rfl, rfl, hmk, HO, hbr⟩ := hrel
    have hz_wr := hbr.size
    have RW := Lib.hid hbr
    by_cases hkn : k < n
    ·
      have hki : (k : Int) < (n : Int) := by omega
      obtain ⟨bb, off, A', n', c', rfl, hc0, hc1, hy⟩ := (HV.out.stays hbr).at_ hkn
      obtain ⟨t, ht⟩ : ∃ t, fldT fs k = t := ⟨_, rfl⟩
      rw [ht] at hc0
      have HT := Lib.hid ht
      clear hy hbr ht
      by_cases hkd : t = kd
      ·
        subst hkd
        have HF := Lib.hid (findX_yes HT.out)
        have hc1 : mo + 1 ≤ maxLen := by unfold maxLen; omega
        have hc2 : (mo + 1) * 8 ≤ 140737488355328 := by omega
        go_wp2_with (at_builtin; refine wpList_append_rd rfl _ _ 34 rfl i0 (.int .i64 0) 8 Try.underlying34 hi hz0 hz1 hz2 rfl (by decide) rfl (own_below HO.out (Below.alloc (Below.refl wr.heap.size wr) (Nat.le_refl _) (.cells #[.int .i64 (k : Int)] 3))) rfl (rd_one _ (.int .i64 (k : Int)) _) (by intro u hu; simp at hu; subst hu; rfl) hc1 hc2 (by have := RW.out.size; simp; omega) ?_; intro A8 c8 w8 hown8 hg8 hb8; have HG8 := Lib.hid hb8; have HO8 := Lib.hid hown8; clear hg8 hb8 hown8)
        have RX := (RW.out.alloc RW.out.size _).trans HG8.out
        have O8 : Hid (IntsA w8 w.heap.size A8 (mo + 1) c8 (findX fs t (k + 1))) := by rw [Hid, HF.out, IntsA, List.map_append]; exact HO8.out
        clear HO8 HG8
        go_wp2
        go_roundw
        case rel => exact ⟨k + 1, mo + 1, c8, A8, by omega, by go_num, rfl, by omega, O8, RX⟩
        case measure => simp [intOf]; omega
      have hkb : (t == kd) = false := by simpa using hkd
      have HF := Lib.hid (findX_no (show ¬ fldT fs k = kd by rw [HT.out]; exact hkd))
      clear hkd
      go_wp2
      go_roundw
      case rel => exact ⟨k + 1, mo, co, AO, by omega, by go_num, rfl, by omega, by rw [HF.out]; exact HO, RW.out⟩
      case measure => simp [intOf]; omega
    · obtain rfl : k = n := by omega
      go_wp2
      go_ret
      exact ⟨AO, mo, co, rfl, HO.out.rd, RW.out⟩
set_option maxRecDepth 100000 in
set_option maxHeartbeats 4000000 in
theorem same1_any (t1 t2 : Int) (A1 A2 : Option Addr) (n1 c1 n2 c2 : Nat) (d1 d2 : List UInt8) (w : World) (h1 : Bytes w A1 n1 c1 d1) (h2 : Bytes w A2 n2 c2 d2) :
    Calls Try.prog 66 #[.agg #[.int .i64 t1, .slice A1 n1 c1], .agg #[.int .i64 t2, .slice A2 n2 c2]] w fun e w' => e = .returned (.bool (decide ((t1, d1) = (t2, d2)))) ∧ Below w.heap.size w w' := by
  have H1 := Lib.hid h1
  have H2 := Lib.hid h2
  clear h1 h2
  by_cases ht : t1 = t2
  ·
    subst ht
    obtain ⟨q, hq⟩ : ∃ q, decide (d1 = d2) = q := ⟨_, rfl⟩
    have HQ : Hid (decide ((t1, d1) = (t1, d2)) = q) := by rw [Hid, ← hq]; simp
    have HQ2 := Lib.hid hq
    clear hq
    go_enter Try.func66, Try.ntmps66
    go_upto_region 1 with fail
    obtain ⟨x1, f_, g_, ex1, ef_, eg_⟩ : ∃ x1 f_ g_, x1 = (w.alloc (.cells #[.int .i64 t1, .slice A1 n1 c1] 38)).alloc (.cells #[.int .i64 t1, .slice A2 n2 c2] 38) ∧ f_ = w.heap.size ∧ g_ = w.heap.size + 1 := ⟨_, _, _, rfl, rfl, rfl⟩
    rw [← ex1, ← eg_, ← ef_]
    have hbx : Below w.heap.size w x1 := by rw [ex1]; exact below_alloc2 _ _ _ 
    have o_F_G : f_ < g_ := by omega
    have g_F : w.heap.size ≤ f_ := by rw [ef_]; exact Nat.le_refl _
    have H1 := Lib.hid (H1.out.stays hbx)
    have H2 := Lib.hid (H2.out.stays hbx)
    have BF := Lib.hid (show Blk x1 f_ 38 #[.int .i64 t1, .slice A1 n1 c1] by rw [ex1, ef_]; exact blk_new2_0 _ _ _ _ _ )
    have BG := Lib.hid (show Blk x1 g_ 38 #[.int .i64 t1, .slice A2 n2 c2] by rw [ex1, eg_]; exact blk_new2_1 _ _ _ _ _ )
    have R2 := Lib.hid hbx
    have hz_x1 := R2.out.size
    clear hbx ex1 ef_ eg_
    have kF_0 : x1.cell? ⟨f_, 0, none⟩ = some (.int .i64 t1) := BF.out.cell 0
    have kF_1 : x1.cell? ⟨f_, 1, none⟩ = some (.slice A1 n1 c1) := BF.out.cell 1
    have kG_0 : x1.cell? ⟨g_, 0, none⟩ = some (.int .i64 t1) := BG.out.cell 0
    have kG_1 : x1.cell? ⟨g_, 1, none⟩ = some (.slice A2 n2 c2) := BG.out.cell 1
    go_wp2_with fail
    refine (octSame_any _ _ _ _ _ _ _ _ _ H1.out H2.out).mono ?_
    rintro e q_ ⟨rfl, rfl⟩
    rw [HQ2.out]
    go_wp2
    go_ret
    exact ⟨by rw [HQ.out]; rfl, R2.out⟩
  ·
    have hb : (t1 == t2) = false := by simpa using ht
    have HQ : Hid (decide ((t1, d1) = (t2, d2)) = false) := by rw [Hid]; simp [ht]
    clear ht
    go_enter Try.func66, Try.ntmps66
    go_upto_region 1 with fail
    obtain ⟨x1, f_, g_, ex1, ef_, eg_⟩ : ∃ x1 f_ g_, x1 = (w.alloc (.cells #[.int .i64 t1, .slice A1 n1 c1] 38)).alloc (.cells #[.int .i64 t2, .slice A2 n2 c2] 38) ∧ f_ = w.heap.size ∧ g_ = w.heap.size + 1 := ⟨_, _, _, rfl, rfl, rfl⟩
    rw [← ex1, ← eg_, ← ef_]
    have hbx : Below w.heap.size w x1 := by rw [ex1]; exact below_alloc2 _ _ _ 
    have o_F_G : f_ < g_ := by omega
    have g_F : w.heap.size ≤ f_ := by rw [ef_]; exact Nat.le_refl _
    have H1 := Lib.hid (H1.out.stays hbx)
    have H2 := Lib.hid (H2.out.stays hbx)
    have BF := Lib.hid (show Blk x1 f_ 38 #[.int .i64 t1, .slice A1 n1 c1] by rw [ex1, ef_]; exact blk_new2_0 _ _ _ _ _ )
    have BG := Lib.hid (show Blk x1 g_ 38 #[.int .i64 t2, .slice A2 n2 c2] by rw [ex1, eg_]; exact blk_new2_1 _ _ _ _ _ )
    have R2 := Lib.hid hbx
    have hz_x1 := R2.out.size
    clear hbx ex1 ef_ eg_
    have kF_0 : x1.cell? ⟨f_, 0, none⟩ = some (.int .i64 t1) := BF.out.cell 0
    have kF_1 : x1.cell? ⟨f_, 1, none⟩ = some (.slice A1 n1 c1) := BF.out.cell 1
    have kG_0 : x1.cell? ⟨g_, 0, none⟩ = some (.int .i64 t2) := BG.out.cell 0
    have kG_1 : x1.cell? ⟨g_, 1, none⟩ = some (.slice A2 n2 c2) := BG.out.cell 1
    go_wp2
    go_ret
    exact ⟨by rw [HQ.out]; rfl, R2.out⟩
set_option maxRecDepth 100000 in
set_option maxHeartbeats 4000000 in
theorem equalFunc_any (A : Option Addr) (n c : Nat) (fs : List (Int × List UInt8)) (A2 : Option Addr) (n2 c2 : Nat) (gs : List (Int × List UInt8)) (w : World) (h1 : FldL w A n c fs) (h2 : FldL w A2 n2 c2 gs) :
    Calls Try.prog 65 #[.slice A n c, .slice A2 n2 c2, .func (.func 66) #[] #[]] w fun e w' => e = .returned (.bool (decide (fs = gs))) ∧ Below w.heap.size w w' := by
  have q1 := h1.le
  have q2 := h1.cap
  have q3 := h2.le
  have q4 := h2.cap
  have L1 := Lib.hid h1.len
  have L2 := Lib.hid h2.len
  have F1 := Lib.hid h1
  have F2 := Lib.hid h2
  clear h1 h2
  by_cases hn : n = n2
  ·
    subst hn
    go_enter Try.func65, Try.ntmps65
    go_wp2_with fail
    go_loopw [17] (fun i wr => ∃ k : Nat, k ≤ n ∧ i = .int .i64 k ∧ Hid (fs.take k = gs.take k) ∧ Below w.heap.size w wr) (fun i _ => n - (intOf i).toNat)
    case atStart => exact ⟨0, Nat.zero_le _, rfl, rfl, Below.refl _ _⟩
    case round =>
      obtain ⟨k, hk, rfl, HT, hbr⟩ := hrel
      have RW := Lib.hid hbr
      have hz_wr := hbr.size
      by_cases hkn : k < n
      ·
        have hki : (k : Int) < (n : Int) := by omega
        obtain ⟨b1, off1, A1', n1', c1', rfl, hc0, hc1, hy⟩ := (F1.out.stays hbr).at_ hkn
        obtain ⟨b2, off2, A2', n2', c2', rfl, hc02, hc12, hy2⟩ := (F2.out.stays hbr).at_ hkn
        have HY := Lib.hid hy
        have HY2 := Lib.hid hy2
        clear hy hy2 hbr
        have HS := Lib.hid (fld_take fs gs k (by rw [L1.out]; exact hkn) (by rw [L2.out]; exact hkn) HT.out)
        have HNE : Hid (fldT fs k ≠ fldT gs k ∨ fldD fs k ≠ fldD gs k → fs ≠ gs) := fun h e => by rcases h with h | h <;> exact h (by rw [e])
        generalize fldT fs k = ta at *
        generalize fldT gs k = tb at *
        generalize fldD fs k = d1 at *
        generalize fldD gs k = d2 at *
        go_upto_region 6 with fail
        obtain ⟨x1, f_, ex1, ef_⟩ : ∃ x1 f_, x1 = wr.alloc (.cells #[.int .i64 ta, .slice A1' n1' c1'] 38) ∧ f_ = wr.heap.size := ⟨_, _, rfl, rfl⟩
        rw [← ex1, ← ef_]
        have hbx : Below wr.heap.size wr x1 := by rw [ex1]; exact below_alloc1 _ _ 
        have HBX := Lib.hid hbx
        have g_F : w.heap.size ≤ f_ := by rw [ef_]; exact hz_wr
        have HY := Lib.hid (HY.out.stays hbx)
        have HY2 := Lib.hid (HY2.out.stays hbx)
        have BF := Lib.hid (show Blk x1 f_ 38 #[.int .i64 ta, .slice A1' n1' c1'] by rw [ex1, ef_]; exact blk_new1_0 _ _ _ )
        have R2 := Lib.hid (RW.out.trans (hbx.mono hz_wr))
        have hz_x1 := R2.out.size
        clear hbx ex1 ef_ RW hz_wr
        have hc02 := cell_stays (show Below wr.heap.size wr x1 from HBX.out) hc02
        have hc12 := cell_stays (show Below wr.heap.size wr x1 from HBX.out) hc12
        have kF_0 : x1.cell? ⟨f_, 0, none⟩ = some (.int .i64 ta) := BF.out.cell 0
        have kF_1 : x1.cell? ⟨f_, 1, none⟩ = some (.slice A1' n1' c1') := BF.out.cell 1
        clear kF_0 kF_1
        go_upto_region 7 with fail
        obtain ⟨x3, g_, ex3, eg_⟩ : ∃ x3 g_, x3 = x1.alloc (.cells #[.int .i64 tb, .slice A2' n2' c2'] 38) ∧ g_ = x1.heap.size := ⟨_, _, rfl, rfl⟩
        rw [← ex3, ← eg_]
        have hbx : Below x1.heap.size x1 x3 := by rw [ex3]; exact below_alloc1 _ _ 
        have o_F_G : f_ < g_ := by rw [eg_]; exact BF.out.lt
        have g_G : w.heap.size ≤ g_ := by rw [eg_]; exact hz_x1
        have BF := Lib.hid (BF.out.stays hbx)
        have HY := Lib.hid (HY.out.stays hbx)
        have HY2 := Lib.hid (HY2.out.stays hbx)
        have BG := Lib.hid (show Blk x3 g_ 38 #[.int .i64 tb, .slice A2' n2' c2'] by rw [ex3, eg_]; exact blk_new1_0 _ _ _ )
        have R4 := Lib.hid (R2.out.trans (hbx.mono hz_x1))
        have hz_x3 := R4.out.size
        clear hbx ex3 eg_ R2 hz_x1
        have kF_0 : x3.cell? ⟨f_, 0, none⟩ = some (.int .i64 ta) := BF.out.cell 0
        have kF_1 : x3.cell? ⟨f_, 1, none⟩ = some (.slice A1' n1' c1') := BF.out.cell 1
        have kG_0 : x3.cell? ⟨g_, 0, none⟩ = some (.int .i64 tb) := BG.out.cell 0
        have kG_1 : x3.cell? ⟨g_, 1, none⟩ = some (.slice A2' n2' c2') := BG.out.cell 1
        go_wp2_with fail
        refine (same1_any ta tb _ _ _ _ _ _ d1 d2 _ HY.out HY2.out).mono ?_
        rintro e y5 ⟨rfl, hb⟩
        clear kF_0 kF_1 kG_0 kG_1
        have hbx : Below x3.heap.size x3 y5 := below_via (by go_grown) hb (by first | (simp; done) | (simp; omega))
        have BF := Lib.hid (BF.out.stays hbx)
        have BG := Lib.hid (BG.out.stays hbx)
        have HY := Lib.hid (HY.out.stays hbx)
        have HY2 := Lib.hid (HY2.out.stays hbx)
        have R6 := Lib.hid (R4.out.trans (hbx.mono hz_x3))
        have hz_y5 := R6.out.size
        clear hb hbx  R4 hz_x3
        by_cases he : (ta, d1) = (tb, d2)
        ·
          have HE := Lib.hid he
          rw [decide_eq_true he]
          have e1 : ta = tb := by injection he
          have e2 : d1 = d2 := by injection he
          have HS2 := Lib.hid (HS.out e1 e2)
          clear he e1 e2
          go_wp2
          go_roundw
          case rel => exact ⟨k + 1, by omega, by go_num, HS2, R6.out⟩
          case measure => simp [intOf]; omega
        have HN2 : Hid (decide (fs = gs) = false) := by
          rw [Hid]
          refine decide_eq_false (HNE.out ?_)
          by_cases h : ta = tb
          · right; intro h2; exact he (by rw [h, h2])
          · left; exact h
        rw [decide_eq_false he]
        clear he
        go_wp2
        go_ret
        exact ⟨by rw [HN2.out]; rfl, R6.out⟩
      · obtain rfl : k = n := by omega
        have e := HT.out
        rw [List.take_of_length_le (by rw [L1.out]; exact Nat.le_refl _), List.take_of_length_le (by rw [L2.out]; exact Nat.le_refl _)] at e
        have E := Lib.hid (decide_eq_true e)
        clear e
        go_wp2
        go_ret
        exact ⟨by rw [E.out]; rfl, RW.out⟩
  · have hni : ((n : Int) == (n2 : Int)) = false := by simp; omega
    have hni2 : ((n : Int) != (n2 : Int)) = true := by simp; omega
    have HN := Lib.hid hn
    clear hn
    go_enter Try.func65, Try.ntmps65
    go_wp2
    go_ret
    exact ⟨by rw [decide_eq_false (fun e => HN.out (by rw [← L1.out, ← L2.out, e]))]; rfl, Below.refl _ _⟩
set_option maxRecDepth 100000 in
set_option maxHeartbeats 4000000 in
theorem sameE_any (A : Option Addr) (n c : Nat) (fs : List (Int × List UInt8)) (A2 : Option Addr) (n2 c2 : Nat) (gs : List (Int × List UInt8)) (w : World) (h1 : FldL w A n c fs) (h2 : FldL w A2 n2 c2 gs) :
    Calls Try.prog 24 #[.slice A n c, .slice A2 n2 c2] w fun e w' => e = .returned (.bool (decide (fs = gs))) ∧ Below w.heap.size w w' := by
  have F1 := Lib.hid h1
  have F2 := Lib.hid h2
  obtain ⟨q, hq⟩ : ∃ q, decide (fs = gs) = q := ⟨_, rfl⟩
  rw [hq]
  have HQ := Lib.hid hq
  clear h1 h2 hq
  go_enter Try.func24, Try.ntmps24
  go_wp2_with fail
  refine (equalFunc_any _ _ _ _ _ _ _ _ _ F1.out F2.out).mono ?_
  rintro e y1 ⟨rfl, hb⟩
  have hbx : Below w.heap.size w y1 := below_via (by go_grown) hb (by first | (simp; done) | (simp; omega))
  have R2 := Lib.hid hbx
  have hz_y1 := R2.out.size
  clear hb hbx 
  rw [HQ.out]
  go_wp2
  go_ret
  exact ⟨rfl, R2.out⟩
end Go.Proofs.Ytofadjcphaehcaa
