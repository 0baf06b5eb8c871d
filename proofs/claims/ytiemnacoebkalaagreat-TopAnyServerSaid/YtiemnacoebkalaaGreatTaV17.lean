import Derived.Test.YtiemnacoebkalaaGreatTaV06
import Derived.Test.YtiemnacoebkalaaGreatTaV16
set_option linter.all false
set_option maxRecDepth 100000
set_option maxHeartbeats 4000000
namespace Go.Proofs.YtiemnacoebkalaaGreat
open Go.RowKit
def IntsL (w : World) (A : Option Addr) (n c : Nat) (l : List Nat) : Prop := Rd w 1 A n c (l.map fun (x : Nat) => Value.int .i64 (x : Int))
theorem IntsL.stays {w w' : World} {A : Option Addr} {n c : Nat} {l : List Nat} (h : IntsL w A n c l) (hb : Below w.heap.size w w') : IntsL w' A n c l := Rd.stays h hb
instance {w w' : World} {A : Option Addr} {n c : Nat} {l : List Nat} : QStay (IntsL w A n c l) w w' (IntsL w' A n c l) := ⟨fun h hb => IntsL.stays h hb⟩
theorem IntsL.len {w : World} {A : Option Addr} {n c : Nat} {l : List Nat} (h : IntsL w A n c l) : l.length = n := by have := h.1; simpa using this
theorem IntsA.rd {w : World} {B n c : Nat} {A : Option Addr} {l : List Nat} (h : IntsA w B A n c l) : IntsL w A n c l := own_rd h
def decL (R : Int × List (Nat × (Int × List UInt8))) : List (Int × List UInt8) := if R.1 = 0 then flX R.2 else []
theorem decode_any (A : Option Addr) (n c : Nat) (l : List UInt8) (w : World) (hb : Bytes w A n c l) :
    Calls Tryz.prog 60 #[.slice A n c] w fun e w' => ∃ A' m c', e = .returned (.tuple #[.slice A' m c', .int .i64 (readX l).1]) ∧ FldL w' A' m c' (decL (readX l)) ∧ Below w.heap.size w w' := by
 have HB := qq hb; obtain ⟨R, hR⟩ : ∃ R, readX l = R := ⟨_, rfl⟩; rw [hR]; have HR := qq hR; clear hb hR
 go_enter Tryz.func60, Tryz.ntmps60
 go_upto_region 2 with fail
 obtain ⟨x1, o_, ex1, eo_⟩ : ∃ x1 o_, x1 = w.alloc (.cells #[.slice none 0 0] 49) ∧ o_ = w.heap.size := ⟨_, _, rfl, rfl⟩; rw [<- ex1, <- eo_]; have hbx : Below w.heap.size w x1 := by rw [ex1]; exact below_alloc1 _ _
 have g_O : w.heap.size <= o_ := by rw [eo_]; exact Nat.le_refl _
 have BO := qq (show Blk x1 o_ 49 #[.slice none 0 0] by rw [ex1, eo_]; exact blk_new1_0 _ _ _ ); have R2 := qq hbx; have hz_x1 := R2.out.size; clear hbx ex1 eo_
 go_wp2_with fail
 refine (scanD o_ A n c l w _ HB.out R2.out BO.out g_O).mono ?_; rw [HR.out]; rintro e w2 ⟨rfl, AO, mo, co, fs', hB, hO, hF, hb⟩; have BO := qq hB; have HO := qq hO; have RB := qq hb; have HF := qq hF; clear hB hO hF hb; obtain ⟨er, her⟩ : ∃ er, R.1 = er := ⟨_, rfl⟩; rw [her]; have HER := qq her; clear her
 by_cases h0 : er = 0
 · subst h0; have HD : Hid (decL R = fs') := by rw [Hid, decL, if_pos HER.out, HF.out HER.out]
   have kO : w2.cell? ⟨o_, 0, none⟩ = some (.slice AO mo co) := BO.out.cell 0; go_wp2
   go_returns
   exact ⟨AO, mo, co, by rw [HER.out]; rfl, by rw [HD.out]; exact HO.out.flds, RB.out⟩
 · have HD : Hid (decL R = []) := by rw [Hid, decL, if_neg (by rw [HER.out]; exact h0)]
   have e1 : (er == 0) = false := by simpa using h0
   have e2 : (er != 0) = true := by simp [bne, e1]
   clear h0; go_wp2
   go_returns
   exact ⟨none, 0, 0, by rw [HER.out]; rfl, by rw [HD.out]; exact FldL.nil _, RB.out⟩
def findX (fs : List (Int × List UInt8)) (kd : Int) (k : Nat) : List Nat := (List.range k).filter fun i => decide (fldT fs i = kd)
theorem findX_yes {fs : List (Int × List UInt8)} {kd : Int} {k : Nat} (h : fldT fs k = kd) : findX fs kd (k + 1) = findX fs kd k ++ [k] := by
 rw [findX, List.range_succ, List.filter_append]; simp [findX, h]
theorem findX_no {fs : List (Int × List UInt8)} {kd : Int} {k : Nat} (h : ¬ fldT fs k = kd) : findX fs kd (k + 1) = findX fs kd k := by
 rw [findX, List.range_succ, List.filter_append]; simp [findX, h]
theorem find_any (A : Option Addr) (n c : Nat) (fs : List (Int × List UInt8)) (kd : Int) (w : World) (hv : FldL w A n c fs) (hn : n <= 1000000) :
    Calls Tryz.prog 43 #[.slice A n c, .int .i64 kd] w fun e w' => ∃ A' m c', e = .returned (.slice A' m c') ∧ IntsL w' A' m c' (findX fs kd n) ∧ Below w.heap.size w w' := by
 obtain ⟨i0, hi, hz0, hz1, hz2⟩ := info_parts infoInt; have hcap := hv.cap; have hle := hv.le; have HV := qq hv; clear hv
 go_enter Tryz.func43, Tryz.ntmps43
 go_wp2
 go_loopw [5, 10] (fun s i wr => ∃ (k mo co : Nat) (AO : Option Addr), k <= n ∧ i = .int .i64 k ∧ s = .slice AO mo co ∧ mo <= k ∧ Hid (IntsA wr w.heap.size AO mo co (findX fs kd k)) ∧ Below w.heap.size w wr) (fun _ i _ => n - (intOf i).toNat)
 case atStart => exact ⟨0, 0, 0, none, Nat.zero_le _, rfl, rfl, Nat.le_refl _, own_nil _ _ _ _, Below.refl _ _⟩
 case round =>
  obtain ⟨k, mo, co, AO, hk, rfl, rfl, hmk, HO, hbr⟩ := hrel; have hz_wr := hbr.size; have RW := qq hbr
  by_cases hkn : k < n
  ·
   have hki : (k : Int) < (n : Int) := by omega
   obtain ⟨bb, off, A', n', c', rfl, hc0, hc1, hy⟩ := (HV.out.stays hbr).at_ hkn; obtain ⟨t, ht⟩ : ∃ t, fldT fs k = t := ⟨_, rfl⟩; rw [ht] at hc0; have HT := qq ht; clear hy hbr ht
   by_cases hkd : t = kd
   ·
    subst hkd; have HF := qq (findX_yes HT.out)
    go_upto_region 5 with fail
    obtain ⟨x1, f_, ex1, ef_⟩ : ∃ x1 f_, x1 = wr.alloc (.cells #[.int .i64 t, .slice A' n' c'] 97) ∧ f_ = wr.heap.size := ⟨_, _, rfl, rfl⟩; rw [<- ex1, <- ef_]; have hbx : Below wr.heap.size wr x1 := by rw [ex1]; exact below_alloc1 _ _
    have g_F : w.heap.size <= f_ := by rw [ef_]; exact hz_wr
    have HO := qq (own_below HO.out hbx); have BF := qq (show Blk x1 f_ 97 #[.int .i64 t, .slice A' n' c'] by rw [ex1, ef_]; exact blk_new1_0 _ _ _ ); have R2 := qq (RW.out.trans (hbx.mono hz_wr)); have hz_x1 := R2.out.size; clear hbx ex1 ef_ RW hz_wr; have kF_0 : x1.cell? ⟨f_, 0, none⟩ = some (.int .i64 t) := BF.out.cell 0; have kF_1 : x1.cell? ⟨f_, 1, none⟩ = some (.slice A' n' c') := BF.out.cell 1; have hc1 : mo + 1 <= maxLen := by unfold maxLen; omega
    have hc2 : (mo + 1) * 8 <= 140737488355328 := by omega
    go_wp2_with (at_builtin; refine wpList_append_rd rfl _ _ 77 rfl i0 (.int .i64 0) 8 Tryz.underlying77 hi hz0 hz1 hz2 rfl (by decide) rfl (own_below HO.out (Below.alloc (Below.refl x1.heap.size x1) (Nat.le_refl _) (.cells #[.int .i64 (k : Int)] 3))) rfl (rd_one _ (.int .i64 (k : Int)) _) (by intro u hu; simp at hu; subst hu; rfl) hc1 hc2 (by have := R2.out.size; simp; omega) ?_; intro A8 c8 w8 hown8 hg8 hb8; have HG8 := qq hb8; have HO8 := qq hown8; clear hg8 hb8 hown8)
    clear kF_0 kF_1; have RX := (R2.out.alloc R2.out.size _).trans HG8.out; have O8 : Hid (IntsA w8 w.heap.size A8 (mo + 1) c8 (findX fs t (k + 1))) := by rw [Hid, HF.out, IntsA, List.map_append]; exact HO8.out
    clear HO8 HG8; go_wp2
    go_roundw
    case rel => exact ⟨k + 1, mo + 1, c8, A8, by omega, by go_num, rfl, by omega, O8, RX⟩
    case measure => simp [intOf]; omega
   have hkb : (t == kd) = false := by simpa using hkd
   have HF := qq (findX_no (show ¬ fldT fs k = kd by rw [HT.out]; exact hkd)); clear hkd
   go_upto_region 5 with fail
   obtain ⟨x3, f_, ex3, ef_⟩ : ∃ x3 f_, x3 = wr.alloc (.cells #[.int .i64 t, .slice A' n' c'] 97) ∧ f_ = wr.heap.size := ⟨_, _, rfl, rfl⟩; rw [<- ex3, <- ef_]; have hbx : Below wr.heap.size wr x3 := by rw [ex3]; exact below_alloc1 _ _
   have g_F : w.heap.size <= f_ := by rw [ef_]; exact hz_wr
   have HO := qq (own_below HO.out hbx); have BF := qq (show Blk x3 f_ 97 #[.int .i64 t, .slice A' n' c'] by rw [ex3, ef_]; exact blk_new1_0 _ _ _ ); have R4 := qq (RW.out.trans (hbx.mono hz_wr)); have hz_x3 := R4.out.size; clear hbx ex3 ef_ RW hz_wr; have kF_0 : x3.cell? ⟨f_, 0, none⟩ = some (.int .i64 t) := BF.out.cell 0; have kF_1 : x3.cell? ⟨f_, 1, none⟩ = some (.slice A' n' c') := BF.out.cell 1; go_wp2
   go_roundw
   case rel => exact ⟨k + 1, mo, co, AO, by omega, by go_num, rfl, by omega, by rw [HF.out]; exact HO, R4.out⟩
   case measure => simp [intOf]; omega
  · obtain rfl : k = n := by omega
    go_wp2; go_ret; exact ⟨AO, mo, co, rfl, HO.out.rd, RW.out⟩
end Go.Proofs.YtiemnacoebkalaaGreat
