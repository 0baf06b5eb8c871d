/- The walk of TopInterleavedTime. -/
import Derived.Test.YtfkckokaclkjnaaIt
import Derived.Test.YtfkckokaclkjnaaOpen
import Derived.IntWalk
import Derived.Deep.DeepCutAuto
namespace Go.Proofs.Ytfkckokaclkjnaa
open Go Go.RowKit Go.Maps

theorem tape_one {B : Nat} {w : World} {b i : Nat} {l : List Int} {k : Nat} (h : Tape B w b l k) (h1 : B ≤ i) (h3 : b ≠ i) (vs : List Value) : Tape B (stores w i vs 0) b l k :=
  Tape.keep h (fun q hq => stores_heap i q (by omega) vs _ 0)
theorem echs_one {w : World} {n c i : Nat} {A : Option Addr} {l : List (Nat × Nat)} (h : Echs w A n c l) (hm : ∀ x, A = some x → x.block ≠ i) (vs : List Value) : Echs (stores w i vs 0) A n c l :=
  Rd.kept h (fun x hx => stores_heap i x.block (hm x hx) vs _ 0)
theorem stores_grown {w : World} {g : Nat} (vs : List Value) : w.grownBy (stores w g vs 0) (some g) := by
  have h := Below.stores (B := g) (w0 := w) (Nat.le_refl g) vs w 0 (Below.refl g w)
  exact ⟨h.os, h.tape, h.output, h.size, fun i _ hi => stores_heap g i (fun e => hi (by rw [e])) vs w 0⟩
set_option maxRecDepth 100000 in
set_option maxHeartbeats 8000000 in
theorem topInterleaved_walk (A0 : Option Addr) (n0 c0 : Nat) (ls : List Int) (w : World) (hv : Rd w 1 A0 n0 c0 (ls.map (Value.int .i64))) :
    Calls Try.prog 3 #[.slice A0 n0 c0] w fun e w' => e = .returned (.bool true) ∧ Below w.heap.size w w' := by
  have hmm := @run_makeMap Try.prog
  have V := Lib.hid hv
  have hvc := hv.2.2.1
  have hvn := hv.2.1
  have hvc2 : c0 ≤ 9223372036854775807 := by unfold maxLen at hvc; omega
  clear hv hvc
  go_enter Try.func3, Try.ntmps3
  go_wp2_with fail
  refine (tape_new A0 n0 c0 ls _ V.out (by omega)).mono ?_
  rintro e y1 ⟨tb, rfl, ht, hb⟩
  have hbx : Below w.heap.size w y1 := below_via (by go_grown) hb (by first | (simp; done) | (simp; omega))
  have T := Lib.hid ht
  have R2 := Lib.hid hbx
  have hz_y1 := R2.out.size
  clear hb hbx ht
  have tge : w.heap.size ≤ tb := T.out.ge
  go_upto_region 3 with fail
  have lt_T := T.out.lt
  obtain ⟨x3, i_, ex3, ei_⟩ : ∃ x3 i_, x3 = y1.alloc (.cells #[.bool false, .bool false, .int .u64 0, .int .i64 0, .int .i64 0, .int .i64 0, .int .u64 0, .int .u64 0] 27) ∧ i_ = y1.heap.size := ⟨_, _, rfl, rfl⟩
  rw [← ex3, ← ei_]
  have hbx : Below y1.heap.size y1 x3 := by rw [ex3]; exact below_alloc1 _ _ 
  have g_I : w.heap.size ≤ i_ := by rw [ei_]; exact hz_y1
  have T := Lib.hid (T.out.stays hbx)
  have BI := Lib.hid (show Blk x3 i_ 27 #[.bool false, .bool false, .int .u64 0, .int .i64 0, .int .i64 0, .int .i64 0, .int .u64 0, .int .u64 0] by rw [ex3, ei_]; exact blk_new1_0 _ _ _ )
  have R4 := Lib.hid (R2.out.trans (hbx.mono hz_y1))
  have hz_x3 := R4.out.size
  have o_T_I : tb < i_ := by rw [ei_]; exact lt_T
  clear hbx ex3 ei_ R2 hz_y1 lt_T
  go_wp2_with fail
  refine (int_any _ _ _ _ 1073741824 (by decide) (by decide) _ T.out).mono ?_
  rintro e y5 ⟨k_, rfl, ht, ho⟩
  obtain ⟨m0, hm0⟩ : ∃ m0 : Nat, tapeAt ls _ % 1073741824 = (m0 : Int) := Int.eq_ofNat_of_zero_le (Int.emod_nonneg _ (by decide))
  have bm0 : m0 < 1073741824 := by omega
  rw [hm0]
  clear hm0
  have BI := Lib.hid (BI.out.grown ho (by simp; omega))
  have R6 := Lib.hid (R4.out.trans ((Below.refl _ x3).grown ho hz_x3 (fun k hk => by simp at hk; subst hk; exact tge)))
  have hz_y5 := R6.out.size
  have T := Lib.hid ht
  clear ht ho R4 hz_x3
  obtain ⟨B, eB⟩ : ∃ B : Nat, (1125899906842624 : Int) + (m0 : Int) = (B : Int) := ⟨1125899906842624 + m0, by omega⟩
  obtain ⟨lo, hlo⟩ : ∃ lo : Int, (B : Int) - 34359738368 = lo := ⟨_, rfl⟩
  obtain ⟨hi, hhi⟩ : ∃ hi : Int, (B : Int) + 1099511627776 = hi := ⟨_, rfl⟩
  go_upto_region 6 with fail
  have lt_T := T.out.lt
  obtain ⟨x7, w_, ex7, ew_⟩ : ∃ x7 w_, x7 = y5.alloc (.cells #[.int .i64 lo, .int .i64 hi] 31) ∧ w_ = y5.heap.size := ⟨_, _, rfl, rfl⟩
  rw [← ex7, ← ew_]
  have hbx : Below y5.heap.size y5 x7 := by rw [ex7]; exact below_alloc1 _ _ 
  have o_I_W : i_ < w_ := by rw [ew_]; exact BI.out.lt
  have g_W : w.heap.size ≤ w_ := by rw [ew_]; exact hz_y5
  have BI := Lib.hid (BI.out.stays hbx)
  have T := Lib.hid (T.out.stays hbx)
  have BW := Lib.hid (show Blk x7 w_ 31 #[.int .i64 lo, .int .i64 hi] by rw [ex7, ew_]; exact blk_new1_0 _ _ _ )
  have R8 := Lib.hid (R6.out.trans (hbx.mono hz_y5))
  have hz_x7 := R8.out.size
  have o_T_W : tb < w_ := by rw [ew_]; exact lt_T
  clear hbx ex7 ew_ R6 hz_y5 lt_T
  have hS := Lib.hid (show spanOk lo hi by unfold spanOk tickOk; omega)
  have hWd : hi - lo < 4503599627370496 := by omega
  go_upto_region 7 with fail
  have lt_W := BW.out.lt
  have lt_T := T.out.lt
  obtain ⟨xm, mb, exm, emb⟩ : ∃ xm mb, xm = x7.alloc (.map #[] 0) ∧ mb = x7.heap.size := ⟨_, _, rfl, rfl⟩
  rw [← exm, ← emb]
  have hbx : Below x7.heap.size x7 xm := by rw [exm]; exact below_alloc1 _ _
  have MP := Lib.hid (show TMap xm mb 0 (.map []) by rw [exm, emb]; exact TMap.made _)
  have o_W_P : w_ < mb := by rw [emb]; exact lt_W
  have o_T_P : tb < mb := by rw [emb]; exact lt_T
  have mge : w.heap.size ≤ mb := by rw [emb]; exact hz_x7
  have BI := Lib.hid (BI.out.stays hbx)
  have BW := Lib.hid (BW.out.stays hbx)
  have T := Lib.hid (T.out.stays hbx)
  have R9 := Lib.hid (R8.out.trans (hbx.mono hz_x7))
  have hz_xm := R9.out.size
  clear hbx exm emb lt_W lt_T R8 hz_x7
  go_wp2_with fail
  refine (int_any _ _ _ _ 6 (by decide) (by decide) _ T.out).mono ?_
  rintro e y10 ⟨k_, rfl, ht, ho⟩
  obtain ⟨m6, hm6⟩ : ∃ m6 : Nat, tapeAt ls _ % 6 = (m6 : Int) := Int.eq_ofNat_of_zero_le (Int.emod_nonneg _ (by decide))
  have bm6 : m6 < 6 := by omega
  rw [hm6]
  clear hm6
  have BI := Lib.hid (BI.out.grown ho (by simp; omega))
  have BW := Lib.hid (BW.out.grown ho (by simp; omega))
  have MP := Lib.hid (MP.out.grown ho (by simp; omega))
  have R11 := Lib.hid (R9.out.trans ((Below.refl _ xm).grown ho hz_xm (fun k hk => by simp at hk; subst hk; exact tge)))
  have hz_y10 := R11.out.size
  have T := Lib.hid ht
  clear ht ho R9 hz_xm
  obtain ⟨cn, ecn⟩ : ∃ cn : Nat, (1 : Int) + (m6 : Int) = (cn : Int) := ⟨1 + m6, by omega⟩
  have hB1 : 1125899906842624 ≤ B := by omega
  have hB2 : B ≤ 1125900980584448 := by omega
  have hcn : cn ≤ 6 := by omega
  go_wp2_with fail
  go_loopw [5, 6, 7, 11] (fun m nv av jv wr => ∃ (j : Nat) (k : Bool) (sent got re b3 ma now at_ ln c nm : Nat) (A : Option Addr) (l : List (Nat × Nat)) (D : DataW Unit) (kk : Nat), j ≤ cn ∧ jv = .int .i64 j ∧ m = .slice A ln c ∧ nv = .int .i64 now ∧ av = .int .i64 at_ ∧ nm ≤ j ∧ Hid (ISt j k sent got re b3 ma now at_ B l ln) ∧ Tape w.heap.size wr tb ls kk ∧ Blk wr i_ 27 #[.bool false, .bool k, .int .u64 0, .int .i64 0, .int .i64 sent, .int .i64 got, .int .u64 re, .int .u64 ma] ∧ Blk wr w_ 31 #[.int .i64 lo, .int .i64 hi] ∧ Echs wr A ln c l ∧ (∀ x, A = some x → mb < x.block ∧ x.block < wr.heap.size) ∧ TMap wr mb nm D ∧ Hid (0 < j → TAt D at_ now) ∧ Below w.heap.size w wr) (fun _ _ _ jv _ => cn - (intOf jv).toNat)
  case atStart =>
    exact ⟨0, false, 0, 0, 0, 0, 0, B, 0, 0, 0, 0, none, [], _, _, by omega, rfl, rfl, rfl, rfl, by omega, ISt.start B, T.out, BI.out, BW.out, Echs.nil _, fun x hx => (by cases hx), MP.out, (fun h => absurd h (Nat.lt_irrefl 0)), R11.out⟩
  case round =>
    clear T BI BW MP R11 hz_y10
    try clear eB em6 ecn hlo hhi bm0 bm6
    obtain ⟨j, k, sent, got, re, b3, ma, now, at_, ln, c, nm, A, l, D, kk, hj, rfl, rfl, rfl, rfl, hnm, HT, ht, hI, hW2, hm, hmb, hmp, HA, hbr⟩ := hrel
    have T := Lib.hid ht
    have BI := Lib.hid hI
    have BW := Lib.hid hW2
    have M := Lib.hid hm
    have HM := Lib.hid hmb
    have MP := Lib.hid hmp
    have RW := Lib.hid hbr
    have hz_wr := RW.out.size
    clear ht hI hW2 hm hmb hmp hbr
    by_cases hjN : j < cn
    case neg =>
      obtain rfl : j = cn := by omega
      have s1 : decide ((j : Int) < (j : Int)) = false := decide_eq_false (by omega)
      go_wp2_with fail
      refine (awake_ok _).mono ?_
      rintro e w1 ⟨rfl, hb⟩
      have RE := RW.out.trans (hb.mono hz_wr)
      clear hb
      go_wp2
      go_ret
      exact ⟨rfl, RE⟩
    have hji : (j : Int) < (cn : Int) := by omega
    have e1b : B ≤ now := HT.out.2.2.1.1
    have e2b : now ≤ B + j * 107000 := HT.out.2.2.1.2.1
    have e3b : at_ ≤ j * 107000 := HT.out.2.2.1.2.2
    have HLN := Lib.hid (show ln = j from HT.out.1.2.2.1)
    have jb : j ≤ 5 := by omega
    have lnb : ln ≤ 5 := by have := HLN.out; omega
    have e5b : now ≤ 1125900981119448 := by omega
    have e6b : at_ ≤ 535000 := by omega
    clear e2b e3b
    have cnn := M.out.le
    have ccc := M.out.cap
    go_wp2_with fail
    refine (int_any _ _ _ _ 100000 (by decide) (by decide) _ T.out).mono ?_
    rintro e y12 ⟨k_, rfl, ht, ho⟩
    obtain ⟨wt, hwt⟩ : ∃ wt : Nat, tapeAt ls _ % 100000 = (wt : Int) := Int.eq_ofNat_of_zero_le (Int.emod_nonneg _ (by decide))
    have bwt : wt < 100000 := by omega
    rw [hwt]
    clear hwt
    have BI := Lib.hid (BI.out.grown ho (by simp; omega))
    have BW := Lib.hid (BW.out.grown ho (by simp; omega))
    have M := Lib.hid (show Echs y12 _ _ _ _ from Rd.grown M.out ho (fun x hx e => by injection e with e; have := (HM.out x hx).1; omega))
    have MP := Lib.hid (MP.out.grown ho (by simp; omega))
    have R13 := Lib.hid (RW.out.trans ((Below.refl _ wr).grown ho hz_wr (fun k hk => by simp at hk; subst hk; exact tge)))
    have hz_y12 := R13.out.size
    have T := Lib.hid ht
    clear ht ho RW hz_wr
    obtain ⟨now1, enow1⟩ : ∃ now1 : Nat, (now : Int) + (wt : Int) = (now1 : Int) := ⟨now + wt, by omega⟩
    obtain ⟨at1, eat1⟩ : ∃ at1 : Nat, (at_ : Int) + (wt : Int) = (at1 : Int) := ⟨at_ + wt, by omega⟩
    obtain ⟨j1, ej1⟩ : ∃ j1 : Nat, (j : Int) + 1 = (j1 : Int) := ⟨j + 1, by omega⟩
    have uj1 : IntKind.u64.wrap (j1 : Int) = (j1 : Int) := IntWalk.u64_in _ (by omega)
    obtain ⟨t, et⟩ : ∃ t : Nat, (j1 : Int) * 7919 = (t : Int) := ⟨j1 * 7919, by omega⟩
    have ut : IntKind.u64.wrap (t : Int) = (t : Int) := IntWalk.u64_in _ (by omega)
    have HJT := Lib.hid (show t = (j + 1) * 7919 by omega)
    have ht0 : ¬ t = 0 := by omega
    have HMA := Lib.hid HT.out.1.1
    have htm : ¬ ma = t := by have := HMA.out; have := HJT.out; omega
    obtain ⟨oo, hoo⟩ : ∃ oo, oo = if k then re else 0 := ⟨_, rfl⟩
    obtain ⟨rr, hrr⟩ : ∃ rr, rr = if k then ma else 0 := ⟨_, rfl⟩
    have HOO := Lib.hid hoo
    have HRR := Lib.hid hrr
    clear hoo hrr
    have kI_0 : y12.cell? ⟨i_, 0, none⟩ = some (.bool false) := BI.out.cell 0
    have kI_1 : y12.cell? ⟨i_, 1, none⟩ = some (.bool k) := BI.out.cell 1
    have kI_2 : y12.cell? ⟨i_, 2, none⟩ = some (.int .u64 0) := BI.out.cell 2
    have kI_3 : y12.cell? ⟨i_, 3, none⟩ = some (.int .i64 0) := BI.out.cell 3
    have kI_4 : y12.cell? ⟨i_, 4, none⟩ = some (.int .i64 sent) := BI.out.cell 4
    have kI_5 : y12.cell? ⟨i_, 5, none⟩ = some (.int .i64 got) := BI.out.cell 5
    have kI_6 : y12.cell? ⟨i_, 6, none⟩ = some (.int .u64 re) := BI.out.cell 6
    have kI_7 : y12.cell? ⟨i_, 7, none⟩ = some (.int .u64 ma) := BI.out.cell 7
    go_wp2_with fail
    refine (ilAsk_all k sent got re ma oo rr t at1 (by omega) (by omega) ht0 (fun _ e => htm e.symm) HOO.out HRR.out _).mono ?_
    rintro e y14 ⟨rfl, hb⟩
    clear kI_0 kI_1 kI_2 kI_3 kI_4 kI_5 kI_6 kI_7
    have hbx : Below y12.heap.size y12 y14 := below_via (by go_grown) hb (by first | (simp; done) | (simp; omega))
    have BI := Lib.hid (BI.out.stays hbx)
    have BW := Lib.hid (BW.out.stays hbx)
    have T := Lib.hid (T.out.stays hbx)
    have M := Lib.hid (M.out.stays hbx)
    have MP := Lib.hid (MP.out.stays hbx)
    have R15 := Lib.hid (R13.out.trans (hbx.mono hz_y12))
    have hz_y14 := R15.out.size
    clear hb hbx  R13 hz_y12
    clear ej1 et uj1 ut
    go_upto_region 14 with fail
    have lt_P := MP.out.lt
    obtain ⟨x16, j_, q_, ex16, ej_, eq_⟩ : ∃ x16 j_ q_, x16 = (y14.alloc (.cells #[.bool true, .bool k, .int .u64 t, .int .i64 at1, .int .i64 sent, .int .i64 got, .int .u64 re, .int .u64 ma] 27)).alloc (.cells #[.int .i64 0, .int .i64 4, .int .i64 3, .int .i64 0, .int .i64 6, .int .i64 0, .int .u32 0, .int .u32 0, .int .u32 0, .int .u64 0, .int .u64 oo, .int .u64 rr, .int .u64 t] 35) ∧ j_ = y14.heap.size ∧ q_ = y14.heap.size + 1 := ⟨_, _, _, rfl, rfl, rfl⟩
    rw [← ex16, ← eq_, ← ej_]
    have hbx : Below y14.heap.size y14 x16 := by rw [ex16]; exact below_alloc2 _ _ _ 
    have o_I_J : i_ < j_ := by rw [ej_]; exact BI.out.lt
    have o_W_J : w_ < j_ := by rw [ej_]; exact BW.out.lt
    have o_J_Q : j_ < q_ := by omega
    have g_J : w.heap.size ≤ j_ := by rw [ej_]; exact hz_y14
    have BI := Lib.hid (BI.out.stays hbx)
    have BW := Lib.hid (BW.out.stays hbx)
    have T := Lib.hid (T.out.stays hbx)
    have M := Lib.hid (M.out.stays hbx)
    have MP := Lib.hid (MP.out.stays hbx)
    have BJ := Lib.hid (show Blk x16 j_ 27 #[.bool true, .bool k, .int .u64 t, .int .i64 at1, .int .i64 sent, .int .i64 got, .int .u64 re, .int .u64 ma] by rw [ex16, ej_]; exact blk_new2_0 _ _ _ _ _ )
    have BQ := Lib.hid (show Blk x16 q_ 35 #[.int .i64 0, .int .i64 4, .int .i64 3, .int .i64 0, .int .i64 6, .int .i64 0, .int .u32 0, .int .u32 0, .int .u32 0, .int .u64 0, .int .u64 oo, .int .u64 rr, .int .u64 t] by rw [ex16, eq_]; exact blk_new2_1 _ _ _ _ _ )
    have R17 := Lib.hid (R15.out.trans (hbx.mono hz_y14))
    have hz_x16 := R17.out.size
    have o_P_J : mb < j_ := by rw [ej_]; exact lt_P
    clear hbx ex16 ej_ eq_ R15 hz_y14 lt_P
    go_wp2_with fail
    refine (int_any _ _ _ _ 3000 (by decide) (by decide) _ T.out).mono ?_
    rintro e y18 ⟨k_, rfl, ht, ho⟩
    obtain ⟨ou, hou⟩ : ∃ ou : Nat, tapeAt ls _ % 3000 = (ou : Int) := Int.eq_ofNat_of_zero_le (Int.emod_nonneg _ (by decide))
    have bou : ou < 3000 := by omega
    rw [hou]
    clear hou
    have BI := Lib.hid (BI.out.grown ho (by simp; omega))
    have BW := Lib.hid (BW.out.grown ho (by simp; omega))
    have BJ := Lib.hid (BJ.out.grown ho (by simp; omega))
    have BQ := Lib.hid (BQ.out.grown ho (by simp; omega))
    have M := Lib.hid (show Echs y18 _ _ _ _ from Rd.grown M.out ho (fun x hx e => by injection e with e; have := (HM.out x hx).1; omega))
    have MP := Lib.hid (MP.out.grown ho (by simp; omega))
    have R19 := Lib.hid (R17.out.trans ((Below.refl _ x16).grown ho hz_x16 (fun k hk => by simp at hk; subst hk; exact tge)))
    have hz_y18 := R19.out.size
    have T := Lib.hid ht
    clear ht ho R17 hz_x16
    go_wp2_with fail
    refine (int_any _ _ _ _ 50 (by decide) (by decide) _ T.out).mono ?_
    rintro e y20 ⟨k_, rfl, ht, ho⟩
    obtain ⟨ho2, hho2⟩ : ∃ ho2 : Nat, tapeAt ls _ % 50 = (ho2 : Int) := Int.eq_ofNat_of_zero_le (Int.emod_nonneg _ (by decide))
    have bho2 : ho2 < 50 := by omega
    rw [hho2]
    clear hho2
    have BI := Lib.hid (BI.out.grown ho (by simp; omega))
    have BW := Lib.hid (BW.out.grown ho (by simp; omega))
    have BJ := Lib.hid (BJ.out.grown ho (by simp; omega))
    have BQ := Lib.hid (BQ.out.grown ho (by simp; omega))
    have M := Lib.hid (show Echs y20 _ _ _ _ from Rd.grown M.out ho (fun x hx e => by injection e with e; have := (HM.out x hx).1; omega))
    have MP := Lib.hid (MP.out.grown ho (by simp; omega))
    have R21 := Lib.hid (R19.out.trans ((Below.refl _ y18).grown ho hz_y18 (fun k hk => by simp at hk; subst hk; exact tge)))
    have hz_y20 := R21.out.size
    have T := Lib.hid ht
    clear ht ho R19 hz_y18
    obtain ⟨hd, ehd⟩ : ∃ hd : Nat, (1 : Int) + (ho2 : Int) = (hd : Int) := ⟨1 + ho2, by omega⟩
    go_wp2_with fail
    refine (int_any _ _ _ _ 40 (by decide) (by decide) _ T.out).mono ?_
    rintro e y22 ⟨k_, rfl, ht, ho⟩
    obtain ⟨la, hla⟩ : ∃ la : Nat, tapeAt ls _ % 40 = (la : Int) := Int.eq_ofNat_of_zero_le (Int.emod_nonneg _ (by decide))
    have bla : la < 40 := by omega
    rw [hla]
    clear hla
    have BI := Lib.hid (BI.out.grown ho (by simp; omega))
    have BW := Lib.hid (BW.out.grown ho (by simp; omega))
    have BJ := Lib.hid (BJ.out.grown ho (by simp; omega))
    have BQ := Lib.hid (BQ.out.grown ho (by simp; omega))
    have M := Lib.hid (show Echs y22 _ _ _ _ from Rd.grown M.out ho (fun x hx e => by injection e with e; have := (HM.out x hx).1; omega))
    have MP := Lib.hid (MP.out.grown ho (by simp; omega))
    have R23 := Lib.hid (R21.out.trans ((Below.refl _ y20).grown ho hz_y20 (fun k hk => by simp at hk; subst hk; exact tge)))
    have hz_y22 := R23.out.size
    have T := Lib.hid ht
    clear ht ho R21 hz_y20
    go_wp2_with fail
    refine (int_any _ _ _ _ 3000 (by decide) (by decide) _ T.out).mono ?_
    rintro e y24 ⟨k_, rfl, ht, ho⟩
    obtain ⟨ba, hba⟩ : ∃ ba : Nat, tapeAt ls _ % 3000 = (ba : Int) := Int.eq_ofNat_of_zero_le (Int.emod_nonneg _ (by decide))
    have bba : ba < 3000 := by omega
    rw [hba]
    clear hba
    have BI := Lib.hid (BI.out.grown ho (by simp; omega))
    have BW := Lib.hid (BW.out.grown ho (by simp; omega))
    have BJ := Lib.hid (BJ.out.grown ho (by simp; omega))
    have BQ := Lib.hid (BQ.out.grown ho (by simp; omega))
    have M := Lib.hid (show Echs y24 _ _ _ _ from Rd.grown M.out ho (fun x hx e => by injection e with e; have := (HM.out x hx).1; omega))
    have MP := Lib.hid (MP.out.grown ho (by simp; omega))
    have R25 := Lib.hid (R23.out.trans ((Below.refl _ y22).grown ho hz_y22 (fun k hk => by simp at hk; subst hk; exact tge)))
    have hz_y24 := R25.out.size
    have T := Lib.hid ht
    clear ht ho R23 hz_y22
    obtain ⟨n2, en2⟩ : ∃ n2 : Nat, (now1 : Int) + (ou : Int) = (n2 : Int) := ⟨now1 + ou, by omega⟩
    obtain ⟨n3, en3⟩ : ∃ n3 : Nat, (n2 : Int) + (hd : Int) = (n3 : Int) := ⟨n2 + hd, by omega⟩
    obtain ⟨n4, en4⟩ : ∃ n4 : Nat, (n3 : Int) + (la : Int) = (n4 : Int) := ⟨n3 + la, by omega⟩
    obtain ⟨n5, en5⟩ : ∃ n5 : Nat, (n4 : Int) + (ba : Int) = (n5 : Int) := ⟨n4 + ba, by omega⟩
    obtain ⟨a2, ea2⟩ : ∃ a2 : Nat, (at1 : Int) + (ou : Int) = (a2 : Int) := ⟨at1 + ou, by omega⟩
    obtain ⟨a3, ea3⟩ : ∃ a3 : Nat, (a2 : Int) + (hd : Int) = (a3 : Int) := ⟨a2 + hd, by omega⟩
    obtain ⟨a4, ea4⟩ : ∃ a4 : Nat, (a3 : Int) + (la : Int) = (a4 : Int) := ⟨a3 + la, by omega⟩
    obtain ⟨a5, ea5⟩ : ∃ a5 : Nat, (a4 : Int) + (ba : Int) = (a5 : Int) := ⟨a4 + ba, by omega⟩
    obtain ⟨rc, hrc⟩ : ∃ rc, n2 * 4096 = rc := ⟨_, rfl⟩
    obtain ⟨tx, htx⟩ : ∃ tx, n4 * 4096 = tx := ⟨_, rfl⟩
    have F1 := Lib.hid (show now + wt = now1 by omega)
    have F2 := Lib.hid (show at_ + wt = at1 by omega)
    have F3 := Lib.hid (show n2 = now1 + ou by omega)
    have F4 := Lib.hid (show n4 = now1 + ou + hd + la by omega)
    have F5 := Lib.hid (show n5 = now1 + ou + hd + la + ba by omega)
    have F6 := Lib.hid (show a5 = at1 + ou + hd + la + ba by omega)
    have F7 := Lib.hid (show 1 ≤ hd ∧ hd ≤ 50 by omega)
    have CR := Lib.hid (fun w => wireN n2 rc w (by omega) hrc)
    have CX := Lib.hid (fun w => wireN n4 tx w (by omega) htx)
    have HRC := Lib.hid hrc
    have HTX := Lib.hid htx
    have l5 : n5 ≤ 1125900981226448 := by omega
    have l6 : a5 ≤ 642000 := by omega
    clear hrc htx
    go_wp2_with fail
    refine (CR.out _).mono ?_
    rintro e q_ ⟨rfl, rfl⟩
    go_wp2_with fail
    refine (CX.out _).mono ?_
    rintro e q_ ⟨rfl, rfl⟩
    have HF := Lib.hid (find_new l ((now - 1) * 4096) rc HT.out.2.1 (by have := HRC.out; omega))
    have HL := Lib.hid (HT.out.case (by omega) HOO.out)
    obtain ⟨kp, hkp⟩ : ∃ kp, kp = decide (0 < ln) := ⟨_, rfl⟩
    have HKP := Lib.hid hkp
    clear hkp
    have kQ_0 : y24.cell? ⟨q_, 0, none⟩ = some (.int .i64 0) := BQ.out.cell 0
    have kQ_1 : y24.cell? ⟨q_, 1, none⟩ = some (.int .i64 4) := BQ.out.cell 1
    have kQ_2 : y24.cell? ⟨q_, 2, none⟩ = some (.int .i64 3) := BQ.out.cell 2
    have kQ_3 : y24.cell? ⟨q_, 3, none⟩ = some (.int .i64 0) := BQ.out.cell 3
    have kQ_4 : y24.cell? ⟨q_, 4, none⟩ = some (.int .i64 6) := BQ.out.cell 4
    have kQ_5 : y24.cell? ⟨q_, 5, none⟩ = some (.int .i64 0) := BQ.out.cell 5
    have kQ_6 : y24.cell? ⟨q_, 6, none⟩ = some (.int .u32 0) := BQ.out.cell 6
    have kQ_7 : y24.cell? ⟨q_, 7, none⟩ = some (.int .u32 0) := BQ.out.cell 7
    have kQ_8 : y24.cell? ⟨q_, 8, none⟩ = some (.int .u32 0) := BQ.out.cell 8
    have kQ_9 : y24.cell? ⟨q_, 9, none⟩ = some (.int .u64 0) := BQ.out.cell 9
    have kQ_10 : y24.cell? ⟨q_, 10, none⟩ = some (.int .u64 oo) := BQ.out.cell 10
    have kQ_11 : y24.cell? ⟨q_, 11, none⟩ = some (.int .u64 rr) := BQ.out.cell 11
    have kQ_12 : y24.cell? ⟨q_, 12, none⟩ = some (.int .u64 t) := BQ.out.cell 12
    have ltP := MP.out.lt
    go_wp2_with fail
    refine (serve_tells A ln c l oo rr t re b3 rc tx _ M.out (by omega) HF.out HL.out kp HKP.out).mono ?_
    rintro e y26 ⟨A3, c3, oT, tT, rfl, hm, hmf, hc, hb⟩
    clear kQ_0 kQ_1 kQ_2 kQ_3 kQ_4 kQ_5 kQ_6 kQ_7 kQ_8 kQ_9 kQ_10 kQ_11 kQ_12
    have hbx : Below y24.heap.size y24 y26 := below_via (by go_grown) hb (by first | (simp; done) | (simp; omega))
    have BI := Lib.hid (BI.out.stays hbx)
    have BW := Lib.hid (BW.out.stays hbx)
    have BJ := Lib.hid (BJ.out.stays hbx)
    have BQ := Lib.hid (BQ.out.stays hbx)
    have T := Lib.hid (T.out.stays hbx)
    have M := Lib.hid (M.out.stays hbx)
    have MP := Lib.hid (MP.out.stays hbx)
    have M3 := Lib.hid hm
    have R27 := Lib.hid (R25.out.trans (hbx.mono hz_y24))
    have hz_y26 := R27.out.size
    clear hb hbx hm R25 hz_y24
    have HC := Lib.hid hc
    have HMF : Hid (∀ x, A3 = some x → mb < x.block) := fun x hx => by have h1 := hmf x hx; omega
    clear hmf hc M HL HF
    go_upto_region 18 with fail
    have lt_P := MP.out.lt
    obtain ⟨x28, z_, ex28, ez_⟩ : ∃ x28 z_, x28 = y26.alloc (.cells #[.int .i64 0, .int .i64 4, .int .i64 4, .int .i64 2, .int .i64 6, .int .i64 (-20), .int .u32 0, .int .u32 0, .int .u32 0, .int .u64 0, .int .u64 oT, .int .u64 rc, .int .u64 tT] 35) ∧ z_ = y26.heap.size := ⟨_, _, rfl, rfl⟩
    rw [← ex28, ← ez_]
    have hbx : Below y26.heap.size y26 x28 := by rw [ex28]; exact below_alloc1 _ _ 
    have o_I_Z : i_ < z_ := by rw [ez_]; exact BI.out.lt
    have o_W_Z : w_ < z_ := by rw [ez_]; exact BW.out.lt
    have o_J_Z : j_ < z_ := by rw [ez_]; exact BJ.out.lt
    have o_Q_Z : q_ < z_ := by rw [ez_]; exact BQ.out.lt
    have g_Z : w.heap.size ≤ z_ := by rw [ez_]; exact hz_y26
    have BI := Lib.hid (BI.out.stays hbx)
    have BW := Lib.hid (BW.out.stays hbx)
    have BJ := Lib.hid (BJ.out.stays hbx)
    have BQ := Lib.hid (BQ.out.stays hbx)
    have T := Lib.hid (T.out.stays hbx)
    have MP := Lib.hid (MP.out.stays hbx)
    have M3 := Lib.hid (M3.out.stays hbx)
    have BZ := Lib.hid (show Blk x28 z_ 35 #[.int .i64 0, .int .i64 4, .int .i64 4, .int .i64 2, .int .i64 6, .int .i64 (-20), .int .u32 0, .int .u32 0, .int .u32 0, .int .u64 0, .int .u64 oT, .int .u64 rc, .int .u64 tT] by rw [ex28, ez_]; exact blk_new1_0 _ _ _ )
    have R29 := Lib.hid (R27.out.trans (hbx.mono hz_y26))
    have hz_x28 := R29.out.size
    have o_P_Z : mb < z_ := by rw [ez_]; exact lt_P
    clear hbx ex28 ez_ R27 hz_y26 lt_P
    have HKK : Hid (kp = true → k = true ∧ ¬ ma = t) := fun h => by
      have h1 := HKP.out
      rw [h] at h1
      have h2 : 0 < ln := of_decide_eq_true h1.symm
      have h3 := HT.out.1.2.2.2
      have h4 := HLN.out
      exact ⟨by rw [h3]; exact decide_eq_true (by omega), htm⟩
    have HRR2 : Hid (kp = true → rr = ma) := fun h => by rw [HRR.out, (HKK.out h).1]; rfl
    have HC2 : Hid ((kp = false ∧ oT = t ∧ tT = tx) ∨ (kp = true ∧ oT = ma ∧ tT = b3)) := by
      rcases HC.out with h | ⟨h1, h2, h3⟩
      · exact .inl h
      · exact .inr ⟨h1, h2.trans (HRR2.out h1), h3⟩
    have kJ_0 : x28.cell? ⟨j_, 0, none⟩ = some (.bool true) := BJ.out.cell 0
    have kJ_1 : x28.cell? ⟨j_, 1, none⟩ = some (.bool k) := BJ.out.cell 1
    have kJ_2 : x28.cell? ⟨j_, 2, none⟩ = some (.int .u64 t) := BJ.out.cell 2
    have kJ_3 : x28.cell? ⟨j_, 3, none⟩ = some (.int .i64 at1) := BJ.out.cell 3
    have kJ_4 : x28.cell? ⟨j_, 4, none⟩ = some (.int .i64 sent) := BJ.out.cell 4
    have kJ_5 : x28.cell? ⟨j_, 5, none⟩ = some (.int .i64 got) := BJ.out.cell 5
    have kJ_6 : x28.cell? ⟨j_, 6, none⟩ = some (.int .u64 re) := BJ.out.cell 6
    have kJ_7 : x28.cell? ⟨j_, 7, none⟩ = some (.int .u64 ma) := BJ.out.cell 7
    have kZ_0 : x28.cell? ⟨z_, 0, none⟩ = some (.int .i64 0) := BZ.out.cell 0
    have kZ_1 : x28.cell? ⟨z_, 1, none⟩ = some (.int .i64 4) := BZ.out.cell 1
    have kZ_2 : x28.cell? ⟨z_, 2, none⟩ = some (.int .i64 4) := BZ.out.cell 2
    have kZ_3 : x28.cell? ⟨z_, 3, none⟩ = some (.int .i64 2) := BZ.out.cell 3
    have kZ_4 : x28.cell? ⟨z_, 4, none⟩ = some (.int .i64 6) := BZ.out.cell 4
    have kZ_5 : x28.cell? ⟨z_, 5, none⟩ = some (.int .i64 (-20)) := BZ.out.cell 5
    have kZ_6 : x28.cell? ⟨z_, 6, none⟩ = some (.int .u32 0) := BZ.out.cell 6
    have kZ_7 : x28.cell? ⟨z_, 7, none⟩ = some (.int .u32 0) := BZ.out.cell 7
    have kZ_8 : x28.cell? ⟨z_, 8, none⟩ = some (.int .u32 0) := BZ.out.cell 8
    have kZ_9 : x28.cell? ⟨z_, 9, none⟩ = some (.int .u64 0) := BZ.out.cell 9
    have kZ_10 : x28.cell? ⟨z_, 10, none⟩ = some (.int .u64 oT) := BZ.out.cell 10
    have kZ_11 : x28.cell? ⟨z_, 11, none⟩ = some (.int .u64 rc) := BZ.out.cell 11
    have kZ_12 : x28.cell? ⟨z_, 12, none⟩ = some (.int .u64 tT) := BZ.out.cell 12
    go_wp2_with fail
    refine (take_tells k kp t at1 sent got re ma oT rc tT tx b3 a5 (by omega) (by omega) (by omega) HC2.out HKK.out _).mono ?_
    rintro e y30 ⟨r1, r4, r2, r3, rfl, hc, hb⟩
    clear kJ_0 kJ_1 kJ_2 kJ_3 kJ_4 kJ_5 kJ_6 kJ_7 kZ_0 kZ_1 kZ_2 kZ_3 kZ_4 kZ_5 kZ_6 kZ_7 kZ_8 kZ_9 kZ_10 kZ_11 kZ_12
    have hbx : Below x28.heap.size x28 y30 := below_via (by go_grown) hb (by first | (simp; done) | (simp; omega))
    have BI := Lib.hid (BI.out.stays hbx)
    have BW := Lib.hid (BW.out.stays hbx)
    have BJ := Lib.hid (BJ.out.stays hbx)
    have BQ := Lib.hid (BQ.out.stays hbx)
    have BZ := Lib.hid (BZ.out.stays hbx)
    have T := Lib.hid (T.out.stays hbx)
    have MP := Lib.hid (MP.out.stays hbx)
    have M3 := Lib.hid (M3.out.stays hbx)
    have R31 := Lib.hid (R29.out.trans (hbx.mono hz_x28))
    have hz_y30 := R31.out.size
    clear hb hbx  R29 hz_x28
    have HR := Lib.hid hc
    clear hc
    obtain ⟨q1, q4, qa, qb, v, rfl, rfl, p1, p2, p3, p4, p5, p6, p7, p8, p9, p10⟩ := HT.out.reads (wt := wt) (ou := ou) (hd := hd) (la := la) (ba := ba) (rc := rc) (tx := tx) (kp := kp) (r1 := r1) (r4 := r4) (r2 := r2) (r3 := r3) (by assumption) (by assumption) F7.out.1 F7.out.2 (by assumption) (by assumption) (by rw [F1.out, ← F3.out]; exact HRC.out) (by rw [F1.out, ← F4.out]; exact HTX.out) HKP.out (by rw [F2.out, ← F6.out]; exact HR.out)
    rw [F2.out, ← F6.out, F1.out, ← F5.out] at p10
    have P1 := Lib.hid p1
    have P2 := Lib.hid p2
    have P10 := Lib.hid p10
    clear p1 p2 p10 HR HC HC2 HKK HRR2
    go_upto_region 20 with fail
    have lt_P := MP.out.lt
    obtain ⟨x32, k_, u_, ex32, ek_, eu_⟩ : ∃ x32 k_ u_, x32 = (y30.alloc (.cells #[.bool false, .bool true, .int .u64 0, .int .i64 0, .int .i64 at1, .int .i64 a5, .int .u64 rc, .int .u64 t] 27)).alloc (.cells #[.int .i64 q1, .int .i64 q4, .int .u64 r2, .int .u64 r3, .bool kp] 44) ∧ k_ = y30.heap.size ∧ u_ = y30.heap.size + 1 := ⟨_, _, _, rfl, rfl, rfl⟩
    rw [← ex32, ← eu_, ← ek_]
    have hbx : Below y30.heap.size y30 x32 := by rw [ex32]; exact below_alloc2 _ _ _ 
    have o_I_K : i_ < k_ := by rw [ek_]; exact BI.out.lt
    have o_W_K : w_ < k_ := by rw [ek_]; exact BW.out.lt
    have o_J_K : j_ < k_ := by rw [ek_]; exact BJ.out.lt
    have o_Q_K : q_ < k_ := by rw [ek_]; exact BQ.out.lt
    have o_Z_K : z_ < k_ := by rw [ek_]; exact BZ.out.lt
    have o_K_U : k_ < u_ := by omega
    have g_K : w.heap.size ≤ k_ := by rw [ek_]; exact hz_y30
    have BI := Lib.hid (BI.out.stays hbx)
    have BW := Lib.hid (BW.out.stays hbx)
    have BJ := Lib.hid (BJ.out.stays hbx)
    have BQ := Lib.hid (BQ.out.stays hbx)
    have BZ := Lib.hid (BZ.out.stays hbx)
    have T := Lib.hid (T.out.stays hbx)
    have MP := Lib.hid (MP.out.stays hbx)
    have M3 := Lib.hid (M3.out.stays hbx)
    have BK := Lib.hid (show Blk x32 k_ 27 #[.bool false, .bool true, .int .u64 0, .int .i64 0, .int .i64 at1, .int .i64 a5, .int .u64 rc, .int .u64 t] by rw [ex32, ek_]; exact blk_new2_0 _ _ _ _ _ )
    have BU := Lib.hid (show Blk x32 u_ 44 #[.int .i64 q1, .int .i64 q4, .int .u64 r2, .int .u64 r3, .bool kp] by rw [ex32, eu_]; exact blk_new2_1 _ _ _ _ _ )
    have R33 := Lib.hid (R31.out.trans (hbx.mono hz_y30))
    have hz_x32 := R33.out.size
    have o_P_K : mb < k_ := by rw [ek_]; exact lt_P
    clear hbx ex32 ek_ eu_ R31 hz_y30 lt_P
    go_wp2_with (at_mapUpdate; refine wpList_mapUpdate_own _ rfl _ _ _ 32 rfl 3 3 lawInt Try.underlying32 _ mb nm D rfl MP.out.1 (by unfold maxLen; omega) _ _ _ rfl rfl (keyInt a5 (by omega)) _ [] (elemInt n5 (by omega)) ?_)
    intro wm hown hgrow
    have HD := Lib.hid (TAt.same MP.out.2 a5 n5)
    have HDo := Lib.hid (fun (h : TAt D at_ now) (hne : at_ ≠ a5) => TAt.other (q' := a5) (v' := n5) h hne)
    have MP := Lib.hid (show TMap wm mb (nm + 1) _ from ⟨hown, MP.out.2.put _ _⟩)
    have BI := Lib.hid (BI.out.grown hgrow (by simp; omega))
    have BW := Lib.hid (BW.out.grown hgrow (by simp; omega))
    have BJ := Lib.hid (BJ.out.grown hgrow (by simp; omega))
    have BQ := Lib.hid (BQ.out.grown hgrow (by simp; omega))
    have BZ := Lib.hid (BZ.out.grown hgrow (by simp; omega))
    have BK := Lib.hid (BK.out.grown hgrow (by simp; omega))
    have BU := Lib.hid (BU.out.grown hgrow (by simp; omega))
    have M3 := Lib.hid (show Echs wm _ _ _ _ from Rd.grown M3.out hgrow (fun x hx e => by injection e with e; have := HMF.out x hx; omega))
    have T := Lib.hid (T.out.keep (fun q hq => hgrow.block q (by have h1 := T.out.lt; have h2 := T.out.ge; rcases hq with h | h <;> omega) (by simp; rcases hq with h | h <;> omega)))
    have R34 := Lib.hid (R33.out.trans ((Below.refl _ x32).grown hgrow hz_x32 (fun k hk => by simp at hk; subst hk; exact mge)))
    have hz_wm := R34.out.size
    clear hown hgrow R33 hz_x32
    have HV : Hid (TAt (D.put (.int .i64 (a5 : Int)) (.lit (.int .i64 (n5 : Int)))) q4 v) := by
      rcases P10.out with ⟨h1, h2⟩ | ⟨h0, h1, h2⟩
      · rw [h1, h2]; exact HD.out
      · rw [h1, h2]; exact HDo.out (HA.out h0) (by omega)
    clear HDo
    have CRd := Lib.hid (fun w => readingsN lo hi qa qb r2 r3 q1 q4 kp w hS.out (by omega) (by omega) (by omega) (by omega) hWd (by omega) (by omega) P1.out P2.out)
    have kU_0 : wm.cell? ⟨u_, 0, none⟩ = some (.int .i64 q1) := BU.out.cell 0
    have kU_1 : wm.cell? ⟨u_, 1, none⟩ = some (.int .i64 q4) := BU.out.cell 1
    have kU_2 : wm.cell? ⟨u_, 2, none⟩ = some (.int .u64 r2) := BU.out.cell 2
    have kU_3 : wm.cell? ⟨u_, 3, none⟩ = some (.int .u64 r3) := BU.out.cell 3
    have kU_4 : wm.cell? ⟨u_, 4, none⟩ = some (.bool kp) := BU.out.cell 4
    have kW_0 : wm.cell? ⟨w_, 0, none⟩ = some (.int .i64 lo) := BW.out.cell 0
    have kW_1 : wm.cell? ⟨w_, 1, none⟩ = some (.int .i64 hi) := BW.out.cell 1
    go_wp2_with fail
    refine (CRd.out _).mono ?_
    rintro e y35 ⟨rfl, hb⟩
    clear kU_0 kU_1 kU_2 kU_3 kU_4 kW_0 kW_1
    have hbx : Below wm.heap.size wm y35 := below_via (by go_grown) hb (by first | (simp; done) | (simp; omega))
    have BI := Lib.hid (BI.out.stays hbx)
    have BW := Lib.hid (BW.out.stays hbx)
    have BJ := Lib.hid (BJ.out.stays hbx)
    have BQ := Lib.hid (BQ.out.stays hbx)
    have BZ := Lib.hid (BZ.out.stays hbx)
    have BK := Lib.hid (BK.out.stays hbx)
    have BU := Lib.hid (BU.out.stays hbx)
    have T := Lib.hid (T.out.stays hbx)
    have MP := Lib.hid (MP.out.stays hbx)
    have M3 := Lib.hid (M3.out.stays hbx)
    have R36 := Lib.hid (R34.out.trans (hbx.mono hz_wm))
    have hz_y35 := R36.out.size
    clear hb hbx  R34 hz_wm
    go_upto_region 22 with fail
    have lt_P := MP.out.lt
    obtain ⟨x37, s_, ex37, es_⟩ : ∃ x37 s_, x37 = y35.alloc (.cells #[.int .i64 q1, .int .i64 qa, .int .i64 qb, .int .i64 q4, .int .i64 0] 48) ∧ s_ = y35.heap.size := ⟨_, _, rfl, rfl⟩
    rw [← ex37, ← es_]
    have hbx : Below y35.heap.size y35 x37 := by rw [ex37]; exact below_alloc1 _ _ 
    have o_I_S : i_ < s_ := by rw [es_]; exact BI.out.lt
    have o_W_S : w_ < s_ := by rw [es_]; exact BW.out.lt
    have o_J_S : j_ < s_ := by rw [es_]; exact BJ.out.lt
    have o_Q_S : q_ < s_ := by rw [es_]; exact BQ.out.lt
    have o_Z_S : z_ < s_ := by rw [es_]; exact BZ.out.lt
    have o_K_S : k_ < s_ := by rw [es_]; exact BK.out.lt
    have o_U_S : u_ < s_ := by rw [es_]; exact BU.out.lt
    have g_S : w.heap.size ≤ s_ := by rw [es_]; exact hz_y35
    have BI := Lib.hid (BI.out.stays hbx)
    have BW := Lib.hid (BW.out.stays hbx)
    have BJ := Lib.hid (BJ.out.stays hbx)
    have BQ := Lib.hid (BQ.out.stays hbx)
    have BZ := Lib.hid (BZ.out.stays hbx)
    have BK := Lib.hid (BK.out.stays hbx)
    have BU := Lib.hid (BU.out.stays hbx)
    have T := Lib.hid (T.out.stays hbx)
    have MP := Lib.hid (MP.out.stays hbx)
    have M3 := Lib.hid (M3.out.stays hbx)
    have BS := Lib.hid (show Blk x37 s_ 48 #[.int .i64 q1, .int .i64 qa, .int .i64 qb, .int .i64 q4, .int .i64 0] by rw [ex37, es_]; exact blk_new1_0 _ _ _ )
    have R38 := Lib.hid (R36.out.trans (hbx.mono hz_y35))
    have hz_x37 := R38.out.size
    have o_P_S : mb < s_ := by rw [es_]; exact lt_P
    clear hbx ex37 es_ R36 hz_y35 lt_P
    obtain ⟨y, hy⟩ : ∃ y : Nat, (qa : Int) + ((q4 : Int) - (q1 : Int)) = (y : Int) := ⟨qa + (q4 - q1), by omega⟩
    have CAt := Lib.hid (fun w => at_ok (q1 : Int) (qa : Int) (qb : Int) (q4 : Int) w (by omega) (by omega) (by omega) (by omega) (by omega) (by omega) (by omega))
    rw [hy] at CAt
    have kS_0 : x37.cell? ⟨s_, 0, none⟩ = some (.int .i64 q1) := BS.out.cell 0
    have kS_1 : x37.cell? ⟨s_, 1, none⟩ = some (.int .i64 qa) := BS.out.cell 1
    have kS_2 : x37.cell? ⟨s_, 2, none⟩ = some (.int .i64 qb) := BS.out.cell 2
    have kS_3 : x37.cell? ⟨s_, 3, none⟩ = some (.int .i64 q4) := BS.out.cell 3
    have kS_4 : x37.cell? ⟨s_, 4, none⟩ = some (.int .i64 0) := BS.out.cell 4
    go_wp2_with fail
    refine (CAt.out _).mono ?_
    rintro e y39 ⟨rfl, hb⟩
    clear kS_0 kS_1 kS_2 kS_3 kS_4
    have hbx : Below x37.heap.size x37 y39 := below_via (by go_grown) hb (by first | (simp; done) | (simp; omega))
    have BI := Lib.hid (BI.out.stays hbx)
    have BW := Lib.hid (BW.out.stays hbx)
    have BJ := Lib.hid (BJ.out.stays hbx)
    have BQ := Lib.hid (BQ.out.stays hbx)
    have BZ := Lib.hid (BZ.out.stays hbx)
    have BK := Lib.hid (BK.out.stays hbx)
    have BU := Lib.hid (BU.out.stays hbx)
    have BS := Lib.hid (BS.out.stays hbx)
    have T := Lib.hid (T.out.stays hbx)
    have MP := Lib.hid (MP.out.stays hbx)
    have M3 := Lib.hid (M3.out.stays hbx)
    have R40 := Lib.hid (R38.out.trans (hbx.mono hz_x37))
    have hz_y39 := R40.out.size
    clear hb hbx  R38 hz_x37
    go_upto_region 23 with fail
    have lt_P := MP.out.lt
    obtain ⟨x41, x_, ex41, ex_⟩ : ∃ x41 x_, x41 = y39.alloc (.cells #[.int .i64 qb, .int .i64 y] 31) ∧ x_ = y39.heap.size := ⟨_, _, rfl, rfl⟩
    rw [← ex41, ← ex_]
    have hbx : Below y39.heap.size y39 x41 := by rw [ex41]; exact below_alloc1 _ _ 
    have o_I_X : i_ < x_ := by rw [ex_]; exact BI.out.lt
    have o_W_X : w_ < x_ := by rw [ex_]; exact BW.out.lt
    have o_J_X : j_ < x_ := by rw [ex_]; exact BJ.out.lt
    have o_Q_X : q_ < x_ := by rw [ex_]; exact BQ.out.lt
    have o_Z_X : z_ < x_ := by rw [ex_]; exact BZ.out.lt
    have o_K_X : k_ < x_ := by rw [ex_]; exact BK.out.lt
    have o_U_X : u_ < x_ := by rw [ex_]; exact BU.out.lt
    have o_S_X : s_ < x_ := by rw [ex_]; exact BS.out.lt
    have g_X : w.heap.size ≤ x_ := by rw [ex_]; exact hz_y39
    have BI := Lib.hid (BI.out.stays hbx)
    have BW := Lib.hid (BW.out.stays hbx)
    have BJ := Lib.hid (BJ.out.stays hbx)
    have BQ := Lib.hid (BQ.out.stays hbx)
    have BZ := Lib.hid (BZ.out.stays hbx)
    have BK := Lib.hid (BK.out.stays hbx)
    have BU := Lib.hid (BU.out.stays hbx)
    have BS := Lib.hid (BS.out.stays hbx)
    have T := Lib.hid (T.out.stays hbx)
    have MP := Lib.hid (MP.out.stays hbx)
    have M3 := Lib.hid (M3.out.stays hbx)
    have BX := Lib.hid (show Blk x41 x_ 31 #[.int .i64 qb, .int .i64 y] by rw [ex41, ex_]; exact blk_new1_0 _ _ _ )
    have R42 := Lib.hid (R40.out.trans (hbx.mono hz_y39))
    have hz_x41 := R42.out.size
    have o_P_X : mb < x_ := by rw [ex_]; exact lt_P
    clear hbx ex41 ex_ R40 hz_y39 lt_P
    have CH := Lib.hid (fun w => holdsI (qb : Int) (y : Int) (v : Int) w (by unfold spanOk tickOk; omega) (by omega) (by omega))
    have hlk := MP.out.look HV.out (by omega)
    have hkk : (kp != kp) = false := by cases kp <;> rfl
    have hkd : decide ((j : Int) > 0) = kp := by rw [HKP.out, HLN.out]; exact decide_eq_decide.2 (by omega)
    have hkd2 : decide ((0 : Int) < (j : Int)) = kp := hkd
    have hkd3 : decide (0 < j) = kp := by rw [HKP.out, HLN.out]
    have kS_3 : x41.cell? ⟨s_, 3, none⟩ = some (.int .i64 q4) := BS.out.cell 3
    have kX_0 : x41.cell? ⟨x_, 0, none⟩ = some (.int .i64 qb) := BX.out.cell 0
    have kX_1 : x41.cell? ⟨x_, 1, none⟩ = some (.int .i64 y) := BX.out.cell 1
    go_wp2_with fail
    refine (CH.out _).mono ?_
    rintro e y43 ⟨rfl, hb⟩
    clear hlk hkk hkd hkd2 hkd3 kS_3 kX_0 kX_1
    have hbx : Below x41.heap.size x41 y43 := below_via (by go_grown) hb (by first | (simp; done) | (simp; omega))
    have BI := Lib.hid (BI.out.stays hbx)
    have BW := Lib.hid (BW.out.stays hbx)
    have BJ := Lib.hid (BJ.out.stays hbx)
    have BQ := Lib.hid (BQ.out.stays hbx)
    have BZ := Lib.hid (BZ.out.stays hbx)
    have BK := Lib.hid (BK.out.stays hbx)
    have BU := Lib.hid (BU.out.stays hbx)
    have BS := Lib.hid (BS.out.stays hbx)
    have BX := Lib.hid (BX.out.stays hbx)
    have T := Lib.hid (T.out.stays hbx)
    have MP := Lib.hid (MP.out.stays hbx)
    have M3 := Lib.hid (M3.out.stays hbx)
    have R44 := Lib.hid (R42.out.trans (hbx.mono hz_x41))
    have hz_y43 := R44.out.size
    clear hb hbx  R42 hz_x41
    have kK_0 : y43.cell? ⟨k_, 0, none⟩ = some (.bool false) := BK.out.cell 0
    have kK_1 : y43.cell? ⟨k_, 1, none⟩ = some (.bool true) := BK.out.cell 1
    have kK_2 : y43.cell? ⟨k_, 2, none⟩ = some (.int .u64 0) := BK.out.cell 2
    have kK_3 : y43.cell? ⟨k_, 3, none⟩ = some (.int .i64 0) := BK.out.cell 3
    have kK_4 : y43.cell? ⟨k_, 4, none⟩ = some (.int .i64 at1) := BK.out.cell 4
    have kK_5 : y43.cell? ⟨k_, 5, none⟩ = some (.int .i64 a5) := BK.out.cell 5
    have kK_6 : y43.cell? ⟨k_, 6, none⟩ = some (.int .u64 rc) := BK.out.cell 6
    have kK_7 : y43.cell? ⟨k_, 7, none⟩ = some (.int .u64 t) := BK.out.cell 7
    have cI := BI.out.cell
    have zI := BI.out.frozen
    have n1 : ¬ k_ = i_ := by omega
    have n2 : ¬ i_ = k_ := by omega
    go_upto_region 10 with fail
    clear cI zI n1 n2
    clear kK_0 kK_1 kK_2 kK_3 kK_4 kK_5 kK_6 kK_7
    generalize hwd : World.setCell _ ⟨i_, 7, none⟩ _ = wd
    have hwd2 : stores y43 i_ [.bool false, .bool true, .int .u64 0, .int .i64 0, .int .i64 at1, .int .i64 a5, .int .u64 rc, .int .u64 t] 0 = wd := hwd
    clear hwd
    have DI := Lib.hid (show Blk wd i_ 27 #[.bool false, .bool true, .int .u64 0, .int .i64 0, .int .i64 at1, .int .i64 a5, .int .u64 rc, .int .u64 t] by rw [← hwd2]; exact BI.out.filled _ rfl)
    have DW := Lib.hid (show Blk wd w_ 31 #[.int .i64 lo, .int .i64 hi] by rw [← hwd2]; exact Blk.beside (by omega) _ _ _ BW.out)
    have DT := Lib.hid (show Tape _ wd _ _ _ by rw [← hwd2]; exact tape_one T.out g_I (by omega) _)
    have DM := Lib.hid (show Echs wd _ _ _ _ by rw [← hwd2]; exact echs_one M3.out (fun x hx e => by have := HMF.out x hx; omega) _)
    have DP := Lib.hid (show TMap wd _ _ _ by rw [← hwd2]; exact MP.out.grown (stores_grown _) (by simp; omega))
    have RD := Lib.hid (show Below w.heap.size w wd by rw [← hwd2]; exact Below.stores g_I _ _ _ R44.out)
    clear hwd2
    have HNX := Lib.hid (HT.out.next (wt := wt) (ou := ou) (hd := hd) (la := la) (ba := ba) (rc := rc) (tx := tx) (t := t) (by assumption) (by assumption) F7.out.1 F7.out.2 (by assumption) (by assumption) (by rw [F1.out, ← F3.out]; exact HRC.out) (by rw [F1.out, ← F4.out]; exact HTX.out) HJT.out)
    rw [F2.out, ← F6.out, F1.out, ← F5.out] at HNX
    have FB := Lib.hid (rd_blt DM.out (by simp [echC]))
    go_wp2
    go_roundw
    case rel => exact ⟨j + 1, true, at1, a5, rc, tx, t, n5, a5, 1 + ln, c3, nm + 1, A3, (rc, tx) :: l, _, _, by omega, by go_num, rfl, rfl, rfl, by omega, HNX, DT.out, DI.out, DW.out, DM.out, fun x hx => ⟨HMF.out x hx, FB.out x hx⟩, DP.out, (fun _ => HD.out), RD.out⟩
    case measure => simp [intOf]; omega
end Go.Proofs.Ytfkckokaclkjnaa
