/- The walk of InterleaveTellsTheExchangeBefore. -/
import Derived.Test.YtnpfndlmbaafaaaIlW
import Derived.Test.YtnpfndlmbaafaaaTakeH
import Derived.IntWalk
import Derived.Deep.DeepCutAuto
namespace Go.Proofs.Ytnpfndlmbaafaaa
open Go.RowKit

theorem tape_one {B : Nat} {w : World} {b i : Nat} {l : List Int} {k : Nat} (h : Tape B w b l k) (h1 : B ≤ i) (h3 : b ≠ i) (vs : List Value) : Tape B (stores w i vs 0) b l k :=
  Tape.keep h (fun q hq => stores_heap i q (by omega) vs _ 0)
theorem echs_one {w : World} {n c i : Nat} {A : Option Addr} {l : List (Nat × Nat)} (h : Echs w A n c l) (hm : ∀ x, A = some x → x.block ≠ i) (vs : List Value) : Echs (stores w i vs 0) A n c l :=
  Rd.kept h (fun x hx => stores_heap i x.block (hm x hx) vs _ 0)
theorem tape_two {B : Nat} {w : World} {b i p : Nat} {l : List Int} {k : Nat} (h : Tape B w b l k) (h1 : B ≤ i) (h2 : B ≤ p) (h3 : b ≠ i) (h4 : b ≠ p) (vs us : List Value) : Tape B (stores (stores w i vs 0) p us 0) b l k :=
  Tape.keep h (fun q hq => (stores_heap p q (by omega) us _ 0).trans (stores_heap i q (by omega) vs _ 0))
theorem echs_two {w : World} {n c i p : Nat} {A : Option Addr} {l : List (Nat × Nat)} (h : Echs w A n c l) (hm : ∀ x, A = some x → p < x.block) (hip : i < p) (vs us : List Value) : Echs (stores (stores w i vs 0) p us 0) A n c l :=
  Rd.kept h (fun x hx => (stores_heap p x.block (by have := hm x hx; omega) us _ 0).trans (stores_heap i x.block (by have := hm x hx; omega) vs _ 0))
set_option maxRecDepth 100000 in
set_option maxHeartbeats 8000000 in
theorem interleaveTells_walk (A0 : Option Addr) (n0 c0 : Nat) (ls : List Int) (f : Bool) (w : World) (hv : Rd w 1 A0 n0 c0 (ls.map (Value.int .i64))) :
    Calls Try.prog 8 #[.slice A0 n0 c0, .bool f] w fun e w' => e = .returned (.bool true) ∧ Below w.heap.size w w' := by
  have V := Lib.hid hv
  have hvc := hv.2.2.1
  have hvn := hv.2.1
  have hvc2 : c0 ≤ 9223372036854775807 := by unfold maxLen at hvc; omega
  clear hv hvc
  obtain ⟨N, hN⟩ : ∃ N : Nat, n0 % 8 = N := ⟨_, rfl⟩
  have hN8 : N < 8 := by omega
  have eN : (n0 : Int).tmod 8 = (N : Int) := by rw [Int.tmod_eq_emod_of_nonneg (by omega)]; omega
  clear hN
  go_enter Try.func8, Try.ntmps8
  go_wp2_with fail
  refine (tape_new A0 n0 c0 ls _ V.out (by omega)).mono ?_
  rintro e y1 ⟨tb, rfl, ht, hb⟩
  have hbx : Below w.heap.size w y1 := below_via (by go_grown) hb (by first | (simp; done) | (simp; omega))
  have T := Lib.hid ht
  have R2 := Lib.hid hbx
  have hz_y1 := R2.out.size
  clear hb hbx ht
  have tge : w.heap.size ≤ tb := T.out.ge
  have tlt := T.out.lt
  go_upto_region 3 with fail
  obtain ⟨x3, i_, ex3, ei_⟩ : ∃ x3 i_, x3 = y1.alloc (.cells #[.bool false, .bool false, .int .u64 0, .int .i64 0, .int .i64 0, .int .i64 0, .int .u64 0, .int .u64 0] 61) ∧ i_ = y1.heap.size := ⟨_, _, rfl, rfl⟩
  rw [← ex3, ← ei_]
  have hbx : Below y1.heap.size y1 x3 := by rw [ex3]; exact below_alloc1 _ _ 
  have g_I : w.heap.size ≤ i_ := by rw [ei_]; exact hz_y1
  have o_T_I : tb < i_ := by rw [ei_]; exact tlt
  have T := Lib.hid (T.out.stays hbx)
  have BI := Lib.hid (show Blk x3 i_ 61 #[.bool false, .bool false, .int .u64 0, .int .i64 0, .int .i64 0, .int .i64 0, .int .u64 0, .int .u64 0] by rw [ex3, ei_]; exact blk_new1_0 _ _ _ )
  have R4 := Lib.hid (R2.out.trans (hbx.mono hz_y1))
  have hz_x3 := R4.out.size
  clear hbx ex3 ei_ R2 hz_y1
  go_upto_region 5 with fail
  obtain ⟨x5, p_, ex5, ep_⟩ : ∃ x5 p_, x5 = x3.alloc (.cells #[.int .i64 0, .int .i64 0, .int .u64 0, .int .u64 0] 64) ∧ p_ = x3.heap.size := ⟨_, _, rfl, rfl⟩
  rw [← ex5, ← ep_]
  have hbx : Below x3.heap.size x3 x5 := by rw [ex5]; exact below_alloc1 _ _ 
  have o_I_P : i_ < p_ := by rw [ep_]; exact BI.out.lt
  have g_P : w.heap.size ≤ p_ := by rw [ep_]; exact hz_x3
  have BI := Lib.hid (BI.out.stays hbx)
  have T := Lib.hid (T.out.stays hbx)
  have BP := Lib.hid (show Blk x5 p_ 64 #[.int .i64 0, .int .i64 0, .int .u64 0, .int .u64 0] by rw [ex5, ep_]; exact blk_new1_0 _ _ _ )
  have R6 := Lib.hid (R4.out.trans (hbx.mono hz_x3))
  have hz_x5 := R6.out.size
  clear hbx ex5 ep_ R4 hz_x3
  go_wp2_with fail
  go_loopw [7, 9, 10, 11] (fun m cl sv nv wr => ∃ (j : Nat) (k : Bool) (b1 b4 b2 b3 ma C S nn c : Nat) (A : Option Addr) (l : List (Nat × Nat)) (kk : Nat), j ≤ 1 + N ∧ nv = .int .i64 j ∧ m = .slice A nn c ∧ cl = .int .i64 C ∧ sv = .int .u64 S ∧ Hid (TSt j k b2 b3 ma C S l nn) ∧ Tape w.heap.size wr tb ls kk ∧ Blk wr i_ 61 #[.bool false, .bool k, .int .u64 0, .int .i64 0, .int .i64 b1, .int .i64 b4, .int .u64 b2, .int .u64 ma] ∧ Blk wr p_ 64 #[.int .i64 b1, .int .i64 b4, .int .u64 b2, .int .u64 b3] ∧ Echs wr A nn c l ∧ (∀ x, A = some x → p_ < x.block ∧ x.block < wr.heap.size) ∧ Below w.heap.size w wr) (fun _ _ _ nv _ => 9 - (intOf nv).toNat)
  case atStart =>
    exact ⟨0, false, 0, 0, 0, 0, 0, 0, 1000, 0, 0, none, [], _, by omega, rfl, rfl, rfl, rfl, ⟨rfl, by omega, by omega, by omega, rfl, by omega, fun e he => (by cases he), rfl, fun h => by omega, .inl rfl⟩, T.out, BI.out, BP.out, Echs.nil _, fun x hx => (by cases hx), R6.out⟩
  case round =>
    clear T BI BP R6 hz_x5
    obtain ⟨j, k, b1, b4, b2, b3, ma, C, S, nn, c, A, l, kk, hj, rfl, rfl, rfl, rfl, HT, ht, hI, hP, hm, hmb, hbr⟩ := hrel
    have T := Lib.hid ht
    have BI := Lib.hid hI
    have BP := Lib.hid hP
    have M := Lib.hid hm
    have HM := Lib.hid hmb
    have RW := Lib.hid hbr
    have hz_wr := RW.out.size
    have tin := T.out.lt
    have oin := BP.out.lt
    clear ht hI hP hm hmb hbr oin
    have C1b : C ≤ 50 * j := HT.out.2.1
    have S1b : 1000 ≤ S := HT.out.2.2.1
    have S2b : S ≤ 1000 + 30 * j := HT.out.2.2.2.1
    have n1b : nn ≤ j := HT.out.2.2.2.2.2.1
    have cnn := M.out.le
    have ccc := M.out.cap
    have sz_wr : wr.heap.size ≤ wr.heap.size := Nat.le_refl _
    by_cases hjN : j < 1 + N
    · have hji : (j : Int) < 1 + (N : Int) := by omega
      go_wp2_with fail
      refine (int_any _ _ _ _ 20 (by decide) (by decide) _ T.out).mono ?_
      rintro e y7 ⟨k_, rfl, ht, ho⟩
      obtain ⟨m1, hm1⟩ : ∃ m1 : Nat, tapeAt ls _ % 20 = (m1 : Int) := Int.eq_ofNat_of_zero_le (Int.emod_nonneg _ (by decide))
      have bm1 : m1 < 20 := by omega
      rw [hm1]
      clear hm1
      have BI := Lib.hid (BI.out.grown ho (by simp; omega))
      have BP := Lib.hid (BP.out.grown ho (by simp; omega))
      have M := Lib.hid (show Echs y7 _ _ _ _ from Rd.grown M.out ho (fun x hx e => by injection e with e; have := (HM.out x hx).1; omega))
      have sz_y7 : wr.heap.size ≤ y7.heap.size := Nat.le_trans sz_wr ho.size
      have R8 := Lib.hid (RW.out.trans ((Below.refl _ wr).grown ho hz_wr (fun k hk => by simp at hk; subst hk; exact tge)))
      have hz_y7 := R8.out.size
      have T := Lib.hid ht
      clear ht ho RW hz_wr
      obtain ⟨C1, eC1⟩ : ∃ C1 : Nat, (C : Int) + (m1 : Int) = (C1 : Int) := ⟨C + m1, by omega⟩
      go_wp2_with fail
      refine (int_any _ _ _ _ 20 (by decide) (by decide) _ T.out).mono ?_
      rintro e y9 ⟨k_, rfl, ht, ho⟩
      obtain ⟨m2, hm2⟩ : ∃ m2 : Nat, tapeAt ls _ % 20 = (m2 : Int) := Int.eq_ofNat_of_zero_le (Int.emod_nonneg _ (by decide))
      have bm2 : m2 < 20 := by omega
      rw [hm2]
      clear hm2
      have BI := Lib.hid (BI.out.grown ho (by simp; omega))
      have BP := Lib.hid (BP.out.grown ho (by simp; omega))
      have M := Lib.hid (show Echs y9 _ _ _ _ from Rd.grown M.out ho (fun x hx e => by injection e with e; have := (HM.out x hx).1; omega))
      have sz_y9 : wr.heap.size ≤ y9.heap.size := Nat.le_trans sz_y7 ho.size
      have R10 := Lib.hid (R8.out.trans ((Below.refl _ y7).grown ho hz_y7 (fun k hk => by simp at hk; subst hk; exact tge)))
      have hz_y9 := R10.out.size
      have T := Lib.hid ht
      clear ht ho R8 hz_y7
      obtain ⟨d2, ed2⟩ : ∃ d2 : Nat, (1 : Int) + (m2 : Int) = (d2 : Int) := ⟨1 + m2, by omega⟩
      have ud2 : IntKind.u64.wrap (d2 : Int) = (d2 : Int) := IntWalk.u64_in _ (by omega)
      obtain ⟨S1, eS1⟩ : ∃ S1 : Nat, (S : Int) + (d2 : Int) = (S1 : Int) := ⟨S + d2, by omega⟩
      have uS1 : IntKind.u64.wrap (S1 : Int) = (S1 : Int) := IntWalk.u64_in _ (by omega)
      go_wp2_with fail
      refine (int_any _ _ _ _ 30 (by decide) (by decide) _ T.out).mono ?_
      rintro e y11 ⟨k_, rfl, ht, ho⟩
      obtain ⟨m3, hm3⟩ : ∃ m3 : Nat, tapeAt ls _ % 30 = (m3 : Int) := Int.eq_ofNat_of_zero_le (Int.emod_nonneg _ (by decide))
      have bm3 : m3 < 30 := by omega
      rw [hm3]
      clear hm3
      have BI := Lib.hid (BI.out.grown ho (by simp; omega))
      have BP := Lib.hid (BP.out.grown ho (by simp; omega))
      have M := Lib.hid (show Echs y11 _ _ _ _ from Rd.grown M.out ho (fun x hx e => by injection e with e; have := (HM.out x hx).1; omega))
      have sz_y11 : wr.heap.size ≤ y11.heap.size := Nat.le_trans sz_y9 ho.size
      have R12 := Lib.hid (R10.out.trans ((Below.refl _ y9).grown ho hz_y9 (fun k hk => by simp at hk; subst hk; exact tge)))
      have hz_y11 := R12.out.size
      have T := Lib.hid ht
      clear ht ho R10 hz_y9
      obtain ⟨C4, eC4⟩ : ∃ C4 : Nat, (C1 : Int) + (m3 : Int) = (C4 : Int) := ⟨C1 + m3, by omega⟩
      go_upto_region 12 with fail
      obtain ⟨x13, x_, ex13, ex_⟩ : ∃ x13 x_, x13 = y11.alloc (.cells #[.int .i64 C1, .int .i64 C4, .int .u64 S1, .int .u64 0] 64) ∧ x_ = y11.heap.size := ⟨_, _, rfl, rfl⟩
      rw [← ex13, ← ex_]
      have hbx : Below y11.heap.size y11 x13 := by rw [ex13]; exact below_alloc1 _ _ 
      have M := Lib.hid (M.out.stays hbx)
      have T := Lib.hid (T.out.stays hbx)
      have sz_x13 : wr.heap.size ≤ x13.heap.size := Nat.le_trans sz_y11 hbx.size
      have o_I_X : i_ < x_ := by rw [ex_]; exact BI.out.lt
      have o_P_X : p_ < x_ := by rw [ex_]; exact BP.out.lt
      have g_X : w.heap.size ≤ x_ := by rw [ex_]; exact hz_y11
      have FMX : Hid (∀ x, A = some x → x.block ≠ x_) := fun x hx e => by have h1 := (HM.out x hx).2; have h2 : wr.heap.size ≤ x_ := (by rw [ex_]; exact sz_y11); omega
      have o_T_X : tb < x_ := by rw [ex_]; exact Nat.lt_of_lt_of_le tin sz_y11
      have BI := Lib.hid (BI.out.stays hbx)
      have BP := Lib.hid (BP.out.stays hbx)
      have BX := Lib.hid (show Blk x13 x_ 64 #[.int .i64 C1, .int .i64 C4, .int .u64 S1, .int .u64 0] by rw [ex13, ex_]; exact blk_new1_0 _ _ _ )
      have R14 := Lib.hid (R12.out.trans (hbx.mono hz_y11))
      have hz_x13 := R14.out.size
      clear hbx ex13 ex_ R12 hz_y11
      skip
      skip
      go_wp2_with fail
      refine (int_any _ _ _ _ 5 (by decide) (by decide) _ T.out).mono ?_
      rintro e y15 ⟨k_, rfl, ht, ho⟩
      obtain ⟨m5, hm5⟩ : ∃ m5 : Nat, tapeAt ls _ % 5 = (m5 : Int) := Int.eq_ofNat_of_zero_le (Int.emod_nonneg _ (by decide))
      have bm5 : m5 < 5 := by omega
      rw [hm5]
      clear hm5
      have BI := Lib.hid (BI.out.grown ho (by simp; omega))
      have BP := Lib.hid (BP.out.grown ho (by simp; omega))
      have BX := Lib.hid (BX.out.grown ho (by simp; omega))
      have M := Lib.hid (show Echs y15 _ _ _ _ from Rd.grown M.out ho (fun x hx e => by injection e with e; have := (HM.out x hx).1; omega))
      have sz_y15 : wr.heap.size ≤ y15.heap.size := Nat.le_trans sz_x13 ho.size
      have R16 := Lib.hid (R14.out.trans ((Below.refl _ x13).grown ho hz_x13 (fun k hk => by simp at hk; subst hk; exact tge)))
      have hz_y15 := R16.out.size
      have T := Lib.hid ht
      clear ht ho R14 hz_x13
      have um5 : IntKind.u64.wrap (m5 : Int) = (m5 : Int) := IntWalk.u64_in _ (by omega)
      obtain ⟨S3, eS3⟩ : ∃ S3 : Nat, (S1 : Int) + (m5 : Int) = (S3 : Int) := ⟨S1 + m5, by omega⟩
      have uS3 : IntKind.u64.wrap (S3 : Int) = (S3 : Int) := IntWalk.u64_in _ (by omega)
      have F1 := Lib.hid (show S < S1 by omega)
      have F2 := Lib.hid (show S1 ≤ S3 by omega)
      have F3 := Lib.hid (show S3 ≤ S + 30 by omega)
      have F4 := Lib.hid (show C4 ≤ C + 50 by omega)
      have kX_3 : y15.cell? ⟨x_, 3, none⟩ = some (.int .u64 0) := BX.out.cell 3
      have fX_3 := BX.out.frozen 3
      go_upto_region 14 with fail
      clear kX_3 fX_3
      obtain ⟨x17, ex17⟩ : ∃ x17, x17 = y15.setCell ⟨x_, 3, none⟩ (.int .u64 S3) := ⟨_, rfl⟩
      rw [← ex17]
      have BI := Lib.hid (show Blk x17 i_ 61 #[.bool false, .bool k, .int .u64 0, .int .i64 0, .int .i64 b1, .int .i64 b4, .int .u64 b2, .int .u64 ma] from by rw [ex17]; exact (BI.out.far (p := ⟨x_, 3, none⟩) (by simp only []; omega) _))
      have BP := Lib.hid (show Blk x17 p_ 64 #[.int .i64 b1, .int .i64 b4, .int .u64 b2, .int .u64 b3] from by rw [ex17]; exact (BP.out.far (p := ⟨x_, 3, none⟩) (by simp only []; omega) _))
      have BX := Lib.hid (show Blk x17 x_ 64 #[.int .i64 C1, .int .i64 C4, .int .u64 S1, .int .u64 S3] from by rw [ex17]; exact (BX.out.put 3 _))
      have R18 := Lib.hid (show Below w.heap.size w x17 from by rw [ex17]; exact (R16.out.setCell (p := ⟨x_, 3, none⟩) (by simp only []; omega) _))
      have hz_x17 := R18.out.size
      clear R16 hz_y15
      have M := Lib.hid (show Echs x17 _ _ _ _ by rw [ex17]; exact Rd.kept M.out (fun x hx => Below.heap_setCell _ ⟨x_, 3, none⟩ _ _ (FMX.out x hx)))
      have T := Lib.hid (show Tape _ x17 _ _ _ by rw [ex17]; exact Tape.keep T.out (fun q hq => Below.heap_setCell _ ⟨x_, 3, none⟩ _ _ (show q ≠ x_ by have := T.out.ge; omega)))
      clear ex17
      obtain ⟨j1, ej1⟩ : ∃ j1 : Nat, (j : Int) + 1 = (j1 : Int) := ⟨j + 1, by omega⟩
      have uj1 : IntKind.u64.wrap (j1 : Int) = (j1 : Int) := IntWalk.u64_in _ (by omega)
      obtain ⟨t, et⟩ : ∃ t : Nat, (j1 : Int) * 1000003 = (t : Int) := ⟨j1 * 1000003, by omega⟩
      have ut : IntKind.u64.wrap (t : Int) = (t : Int) := IntWalk.u64_in _ (by omega)
      have hj1 : j1 = j + 1 := by omega
      have hjt : t = (j + 1) * 1000003 := by omega
      have HJT := Lib.hid hjt
      clear hjt
      have ht0 : ¬ t = 0 := by omega
      clear hj1
      have HMA := Lib.hid HT.out.1
      have htm : ¬ ma = t := by have := HMA.out; omega
      obtain ⟨oo, hoo⟩ : ∃ oo, oo = if k then b2 else 0 := ⟨_, rfl⟩
      obtain ⟨rr, hrr⟩ : ∃ rr, rr = if k then ma else 0 := ⟨_, rfl⟩
      have HOO := Lib.hid hoo
      have HRR := Lib.hid hrr
      clear hoo hrr
      have kX_0 : x17.cell? ⟨x_, 0, none⟩ = some (.int .i64 C1) := BX.out.cell 0
      have kX_1 : x17.cell? ⟨x_, 1, none⟩ = some (.int .i64 C4) := BX.out.cell 1
      have kX_2 : x17.cell? ⟨x_, 2, none⟩ = some (.int .u64 S1) := BX.out.cell 2
      have kX_3 : x17.cell? ⟨x_, 3, none⟩ = some (.int .u64 S3) := BX.out.cell 3
      have kI_0 : x17.cell? ⟨i_, 0, none⟩ = some (.bool false) := BI.out.cell 0
      have kI_1 : x17.cell? ⟨i_, 1, none⟩ = some (.bool k) := BI.out.cell 1
      have kI_2 : x17.cell? ⟨i_, 2, none⟩ = some (.int .u64 0) := BI.out.cell 2
      have kI_3 : x17.cell? ⟨i_, 3, none⟩ = some (.int .i64 0) := BI.out.cell 3
      have kI_4 : x17.cell? ⟨i_, 4, none⟩ = some (.int .i64 b1) := BI.out.cell 4
      have kI_5 : x17.cell? ⟨i_, 5, none⟩ = some (.int .i64 b4) := BI.out.cell 5
      have kI_6 : x17.cell? ⟨i_, 6, none⟩ = some (.int .u64 b2) := BI.out.cell 6
      have kI_7 : x17.cell? ⟨i_, 7, none⟩ = some (.int .u64 ma) := BI.out.cell 7
      go_wp2_with fail
      refine (ilAsk_all k b1 b4 b2 ma oo rr t C1 (by omega) (by omega) ht0 (fun _ e => htm e.symm) HOO.out HRR.out _).mono ?_
      rintro e y19 ⟨rfl, hb⟩
      clear kX_0 kX_1 kX_2 kX_3 kI_0 kI_1 kI_2 kI_3 kI_4 kI_5 kI_6 kI_7
      have hbx : Below x17.heap.size x17 y19 := below_via (by go_grown) hb (by first | (simp; done) | (simp; omega))
      have BI := Lib.hid (BI.out.stays hbx)
      have BP := Lib.hid (BP.out.stays hbx)
      have BX := Lib.hid (BX.out.stays hbx)
      have T := Lib.hid (T.out.stays hbx)
      have M := Lib.hid (M.out.stays hbx)
      have R20 := Lib.hid (R18.out.trans (hbx.mono hz_x17))
      have hz_y19 := R20.out.size
      clear hb hbx  R18 hz_x17
      clear ej1 et uj1 ut
      go_upto_region 16 with fail
      obtain ⟨x21, j_, q_, ex21, ej_, eq_⟩ : ∃ x21 j_ q_, x21 = (y19.alloc (.cells #[.bool true, .bool k, .int .u64 t, .int .i64 C1, .int .i64 b1, .int .i64 b4, .int .u64 b2, .int .u64 ma] 61)).alloc (.cells #[.int .i64 0, .int .i64 4, .int .i64 3, .int .i64 0, .int .i64 6, .int .i64 0, .int .u32 0, .int .u32 0, .int .u32 0, .int .u64 0, .int .u64 oo, .int .u64 rr, .int .u64 t] 25) ∧ j_ = y19.heap.size ∧ q_ = y19.heap.size + 1 := ⟨_, _, _, rfl, rfl, rfl⟩
      rw [← ex21, ← eq_, ← ej_]
      have hbx : Below y19.heap.size y19 x21 := by rw [ex21]; exact below_alloc2 _ _ _ 
      have o_I_J : i_ < j_ := by rw [ej_]; exact BI.out.lt
      have o_P_J : p_ < j_ := by rw [ej_]; exact BP.out.lt
      have o_X_J : x_ < j_ := by rw [ej_]; exact BX.out.lt
      have o_J_Q : j_ < q_ := by omega
      have g_J : w.heap.size ≤ j_ := by rw [ej_]; exact hz_y19
      have BI := Lib.hid (BI.out.stays hbx)
      have BP := Lib.hid (BP.out.stays hbx)
      have BX := Lib.hid (BX.out.stays hbx)
      have T := Lib.hid (T.out.stays hbx)
      have M := Lib.hid (M.out.stays hbx)
      have BJ := Lib.hid (show Blk x21 j_ 61 #[.bool true, .bool k, .int .u64 t, .int .i64 C1, .int .i64 b1, .int .i64 b4, .int .u64 b2, .int .u64 ma] by rw [ex21, ej_]; exact blk_new2_0 _ _ _ _ _ )
      have BQ := Lib.hid (show Blk x21 q_ 25 #[.int .i64 0, .int .i64 4, .int .i64 3, .int .i64 0, .int .i64 6, .int .i64 0, .int .u32 0, .int .u32 0, .int .u32 0, .int .u64 0, .int .u64 oo, .int .u64 rr, .int .u64 t] by rw [ex21, eq_]; exact blk_new2_1 _ _ _ _ _ )
      have R22 := Lib.hid (R20.out.trans (hbx.mono hz_y19))
      have hz_x21 := R22.out.size
      clear hbx ex21 ej_ eq_ R20 hz_y19
      go_upto_region 18 with fail
      go_cut [79] (fun s wx => ∃ (v : Bool) (k2 : Nat), s = .bool v ∧ Tape w.heap.size wx tb ls k2 ∧ x21.grownBy wx (some tb))
      case first =>
        cases f with
        | false =>
          go_wp2_with fail
          go_meet
          exact ⟨false, _, rfl, T.out, World.grownBy.refl _ _⟩
        | true =>
          go_wp2_with fail
          refine (tapeBool_any _ _ _ _ _ T.out).mono ?_
          rintro e w2 ⟨v, k2, rfl, ht, ho⟩
          have HT2 := Lib.hid ht
          have HO2 := Lib.hid ho
          clear ht ho
          go_wp2_with fail
          go_meet
          exact ⟨v, k2, rfl, HT2.out, HO2.out⟩
      case rest =>
        obtain ⟨v, k2, rfl, ht, ho⟩ := hcut
        have BI := Lib.hid (BI.out.grown ho (by simp; omega))
        have BP := Lib.hid (BP.out.grown ho (by simp; omega))
        have BX := Lib.hid (BX.out.grown ho (by simp; omega))
        have BJ := Lib.hid (BJ.out.grown ho (by simp; omega))
        have BQ := Lib.hid (BQ.out.grown ho (by simp; omega))
        have M := Lib.hid (show Echs wc _ _ _ _ from Rd.grown M.out ho (fun x hx e => by injection e with e; have := (HM.out x hx).1; omega))
        have R23 := Lib.hid (R22.out.trans ((Below.refl _ x21).grown ho hz_x21 (fun k hk => by simp at hk; subst hk; exact tge)))
        have hz_wc := R23.out.size
        have T := Lib.hid ht
        clear ht ho R22 hz_x21
        go_upto_if 79 with fail
        go_cut [7] (fun s wx => ∃ (A2 : Option Addr) (n2 c2 : Nat) (l2 : List (Nat × Nat)), s = .slice A2 n2 c2 ∧ Hid (TSt j k b2 b3 ma C S l2 n2) ∧ Echs wx A2 n2 c2 l2 ∧ (∀ x, A2 = some x → p_ < x.block) ∧ wx = wc)
        case first =>
          cases v with
          | false =>
            go_wp2_with fail
            go_meet
            exact ⟨A, nn, c, l, rfl, HT, M.out, fun x hx => (HM.out x hx).1, rfl⟩
          | true =>
            go_wp2_with fail
            go_meet
            exact ⟨none, 0, 0, [], rfl, HT.out.nil, Echs.nil _, fun x hx => (by cases hx), rfl⟩
        case rest =>
          clear HT M HM n1b cnn ccc
          obtain ⟨A2, n2, c2, l2, rfl, HT, hm, hmb, rfl⟩ := hcut
          have M := Lib.hid hm
          have n2b : n2 ≤ j := HT.out.2.2.2.2.2.1
          have cnn := M.out.le
          have ccc := M.out.cap
          clear hm hmb
          obtain ⟨kp, hkp⟩ : ∃ kp, kp = decide (0 < n2) := ⟨_, rfl⟩
          have HKP := Lib.hid hkp
          clear hkp
          go_upto_region 20 with fail
          go_cut [16] (fun s wx => s = .bool kp ∧ wx = wc)
          case first =>
            by_cases h2 : 0 < n2
            · have hj0 : (j : Int) > 0 := by omega
              have hn0 : (n2 : Int) > 0 := by omega
              go_wp2_with fail
              go_meet
              exact ⟨by rw [HKP.out, decide_eq_true h2], rfl⟩
            · obtain rfl : n2 = 0 := by omega
              by_cases hj0 : j = 0
              · subst hj0
                go_wp2_with fail
                go_meet
                exact ⟨by rw [HKP.out]; rfl, rfl⟩
              · have hj0 : (j : Int) > 0 := by omega
                go_wp2_with fail
                go_meet
                exact ⟨by rw [HKP.out]; rfl, rfl⟩
          case rest =>
            obtain ⟨rfl, rfl⟩ := hcut
            have HF := Lib.hid (find_new l2 S S1 HT.out.2.2.2.2.2.2.1 (by omega))
            have HL := Lib.hid (HT.out.case HOO.out)
            have kX_0 : wc.cell? ⟨x_, 0, none⟩ = some (.int .i64 C1) := BX.out.cell 0
            have kX_1 : wc.cell? ⟨x_, 1, none⟩ = some (.int .i64 C4) := BX.out.cell 1
            have kX_2 : wc.cell? ⟨x_, 2, none⟩ = some (.int .u64 S1) := BX.out.cell 2
            have kX_3 : wc.cell? ⟨x_, 3, none⟩ = some (.int .u64 S3) := BX.out.cell 3
            have kQ_0 : wc.cell? ⟨q_, 0, none⟩ = some (.int .i64 0) := BQ.out.cell 0
            have kQ_1 : wc.cell? ⟨q_, 1, none⟩ = some (.int .i64 4) := BQ.out.cell 1
            have kQ_2 : wc.cell? ⟨q_, 2, none⟩ = some (.int .i64 3) := BQ.out.cell 2
            have kQ_3 : wc.cell? ⟨q_, 3, none⟩ = some (.int .i64 0) := BQ.out.cell 3
            have kQ_4 : wc.cell? ⟨q_, 4, none⟩ = some (.int .i64 6) := BQ.out.cell 4
            have kQ_5 : wc.cell? ⟨q_, 5, none⟩ = some (.int .i64 0) := BQ.out.cell 5
            have kQ_6 : wc.cell? ⟨q_, 6, none⟩ = some (.int .u32 0) := BQ.out.cell 6
            have kQ_7 : wc.cell? ⟨q_, 7, none⟩ = some (.int .u32 0) := BQ.out.cell 7
            have kQ_8 : wc.cell? ⟨q_, 8, none⟩ = some (.int .u32 0) := BQ.out.cell 8
            have kQ_9 : wc.cell? ⟨q_, 9, none⟩ = some (.int .u64 0) := BQ.out.cell 9
            have kQ_10 : wc.cell? ⟨q_, 10, none⟩ = some (.int .u64 oo) := BQ.out.cell 10
            have kQ_11 : wc.cell? ⟨q_, 11, none⟩ = some (.int .u64 rr) := BQ.out.cell 11
            have kQ_12 : wc.cell? ⟨q_, 12, none⟩ = some (.int .u64 t) := BQ.out.cell 12
            have lp_ := BP.out.lt
            go_wp2_with fail
            refine (serve_tells A2 n2 c2 l2 oo rr t b2 b3 S1 S3 _ M.out (by omega) HF.out HL.out kp HKP.out).mono ?_
            rintro e y24 ⟨A3, c3, oT, tT, rfl, hm, hmf, hc, hb⟩
            clear kX_0 kX_1 kX_2 kX_3 kQ_0 kQ_1 kQ_2 kQ_3 kQ_4 kQ_5 kQ_6 kQ_7 kQ_8 kQ_9 kQ_10 kQ_11 kQ_12
            have hbx : Below wc.heap.size wc y24 := below_via (by go_grown) hb (by first | (simp; done) | (simp; omega))
            have BI := Lib.hid (BI.out.stays hbx)
            have BP := Lib.hid (BP.out.stays hbx)
            have BX := Lib.hid (BX.out.stays hbx)
            have BJ := Lib.hid (BJ.out.stays hbx)
            have BQ := Lib.hid (BQ.out.stays hbx)
            have T := Lib.hid (T.out.stays hbx)
            have M3 := Lib.hid hm
            have R25 := Lib.hid (R23.out.trans (hbx.mono hz_wc))
            have hz_y24 := R25.out.size
            clear hb hbx hm R23 hz_wc
            have HC := Lib.hid hc
            have HMF : Hid (∀ x, A3 = some x → p_ < x.block) := fun x hx => by have := hmf x hx; omega
            clear hmf hc M HL HF
            go_upto_region 22 with fail
            obtain ⟨x26, z_, ex26, ez_⟩ : ∃ x26 z_, x26 = y24.alloc (.cells #[.int .i64 0, .int .i64 4, .int .i64 4, .int .i64 2, .int .i64 6, .int .i64 (-20), .int .u32 0, .int .u32 0, .int .u32 0, .int .u64 0, .int .u64 oT, .int .u64 S1, .int .u64 tT] 25) ∧ z_ = y24.heap.size := ⟨_, _, rfl, rfl⟩
            rw [← ex26, ← ez_]
            have hbx : Below y24.heap.size y24 x26 := by rw [ex26]; exact below_alloc1 _ _ 
            have o_I_Z : i_ < z_ := by rw [ez_]; exact BI.out.lt
            have o_P_Z : p_ < z_ := by rw [ez_]; exact BP.out.lt
            have o_X_Z : x_ < z_ := by rw [ez_]; exact BX.out.lt
            have o_J_Z : j_ < z_ := by rw [ez_]; exact BJ.out.lt
            have o_Q_Z : q_ < z_ := by rw [ez_]; exact BQ.out.lt
            have g_Z : w.heap.size ≤ z_ := by rw [ez_]; exact hz_y24
            have BI := Lib.hid (BI.out.stays hbx)
            have BP := Lib.hid (BP.out.stays hbx)
            have BX := Lib.hid (BX.out.stays hbx)
            have BJ := Lib.hid (BJ.out.stays hbx)
            have BQ := Lib.hid (BQ.out.stays hbx)
            have T := Lib.hid (T.out.stays hbx)
            have M3 := Lib.hid (M3.out.stays hbx)
            have BZ := Lib.hid (show Blk x26 z_ 25 #[.int .i64 0, .int .i64 4, .int .i64 4, .int .i64 2, .int .i64 6, .int .i64 (-20), .int .u32 0, .int .u32 0, .int .u32 0, .int .u64 0, .int .u64 oT, .int .u64 S1, .int .u64 tT] by rw [ex26, ez_]; exact blk_new1_0 _ _ _ )
            have R27 := Lib.hid (R25.out.trans (hbx.mono hz_y24))
            have hz_x26 := R27.out.size
            clear hbx ex26 ez_ R25 hz_y24
            have HKK : Hid (kp = true → k = true ∧ ¬ ma = t) := fun h => by
              have h1 := HKP.out
              rw [h] at h1
              have h2 : 0 < n2 := of_decide_eq_true h1.symm
              have h3 := HT.out.2.2.2.2.2.2.2.1
              exact ⟨by rw [h3]; exact decide_eq_true (by omega), htm⟩
            have HRR2 : Hid (kp = true → rr = ma) := fun h => by rw [HRR.out, (HKK.out h).1]; rfl
            have HC2 : Hid ((kp = false ∧ oT = t ∧ tT = S3) ∨ (kp = true ∧ oT = ma ∧ tT = b3)) := by
              rcases HC.out with h | ⟨h1, h2, h3⟩
              · exact .inl h
              · exact .inr ⟨h1, h2.trans (HRR2.out h1), h3⟩
            have kJ_0 : x26.cell? ⟨j_, 0, none⟩ = some (.bool true) := BJ.out.cell 0
            have kJ_1 : x26.cell? ⟨j_, 1, none⟩ = some (.bool k) := BJ.out.cell 1
            have kJ_2 : x26.cell? ⟨j_, 2, none⟩ = some (.int .u64 t) := BJ.out.cell 2
            have kJ_3 : x26.cell? ⟨j_, 3, none⟩ = some (.int .i64 C1) := BJ.out.cell 3
            have kJ_4 : x26.cell? ⟨j_, 4, none⟩ = some (.int .i64 b1) := BJ.out.cell 4
            have kJ_5 : x26.cell? ⟨j_, 5, none⟩ = some (.int .i64 b4) := BJ.out.cell 5
            have kJ_6 : x26.cell? ⟨j_, 6, none⟩ = some (.int .u64 b2) := BJ.out.cell 6
            have kJ_7 : x26.cell? ⟨j_, 7, none⟩ = some (.int .u64 ma) := BJ.out.cell 7
            have kZ_0 : x26.cell? ⟨z_, 0, none⟩ = some (.int .i64 0) := BZ.out.cell 0
            have kZ_1 : x26.cell? ⟨z_, 1, none⟩ = some (.int .i64 4) := BZ.out.cell 1
            have kZ_2 : x26.cell? ⟨z_, 2, none⟩ = some (.int .i64 4) := BZ.out.cell 2
            have kZ_3 : x26.cell? ⟨z_, 3, none⟩ = some (.int .i64 2) := BZ.out.cell 3
            have kZ_4 : x26.cell? ⟨z_, 4, none⟩ = some (.int .i64 6) := BZ.out.cell 4
            have kZ_5 : x26.cell? ⟨z_, 5, none⟩ = some (.int .i64 (-20)) := BZ.out.cell 5
            have kZ_6 : x26.cell? ⟨z_, 6, none⟩ = some (.int .u32 0) := BZ.out.cell 6
            have kZ_7 : x26.cell? ⟨z_, 7, none⟩ = some (.int .u32 0) := BZ.out.cell 7
            have kZ_8 : x26.cell? ⟨z_, 8, none⟩ = some (.int .u32 0) := BZ.out.cell 8
            have kZ_9 : x26.cell? ⟨z_, 9, none⟩ = some (.int .u64 0) := BZ.out.cell 9
            have kZ_10 : x26.cell? ⟨z_, 10, none⟩ = some (.int .u64 oT) := BZ.out.cell 10
            have kZ_11 : x26.cell? ⟨z_, 11, none⟩ = some (.int .u64 S1) := BZ.out.cell 11
            have kZ_12 : x26.cell? ⟨z_, 12, none⟩ = some (.int .u64 tT) := BZ.out.cell 12
            have kX_0 : x26.cell? ⟨x_, 0, none⟩ = some (.int .i64 C1) := BX.out.cell 0
            have kX_1 : x26.cell? ⟨x_, 1, none⟩ = some (.int .i64 C4) := BX.out.cell 1
            have kX_2 : x26.cell? ⟨x_, 2, none⟩ = some (.int .u64 S1) := BX.out.cell 2
            have kX_3 : x26.cell? ⟨x_, 3, none⟩ = some (.int .u64 S3) := BX.out.cell 3
            go_wp2_with fail
            refine (take_tells k kp t C1 b1 b4 b2 ma oT S1 tT S3 b3 C4 (by omega) (by omega) (by omega) HC2.out HKK.out _).mono ?_
            rintro e y28 ⟨r1, r4, r2, r3, rfl, hc, hb⟩
            clear kJ_0 kJ_1 kJ_2 kJ_3 kJ_4 kJ_5 kJ_6 kJ_7 kZ_0 kZ_1 kZ_2 kZ_3 kZ_4 kZ_5 kZ_6 kZ_7 kZ_8 kZ_9 kZ_10 kZ_11 kZ_12 kX_0 kX_1 kX_2 kX_3
            have hbx : Below x26.heap.size x26 y28 := below_via (by go_grown) hb (by first | (simp; done) | (simp; omega))
            have BI := Lib.hid (BI.out.stays hbx)
            have BP := Lib.hid (BP.out.stays hbx)
            have BX := Lib.hid (BX.out.stays hbx)
            have BJ := Lib.hid (BJ.out.stays hbx)
            have BQ := Lib.hid (BQ.out.stays hbx)
            have BZ := Lib.hid (BZ.out.stays hbx)
            have T := Lib.hid (T.out.stays hbx)
            have M3 := Lib.hid (M3.out.stays hbx)
            have R29 := Lib.hid (R27.out.trans (hbx.mono hz_x26))
            have hz_y28 := R29.out.size
            clear hb hbx  R27 hz_x26
            have HR := Lib.hid hc
            clear hc
            go_upto_region 23 with fail
            obtain ⟨x30, k_, u_, ex30, ek_, eu_⟩ : ∃ x30 k_ u_, x30 = (y28.alloc (.cells #[.bool false, .bool true, .int .u64 0, .int .i64 0, .int .i64 C1, .int .i64 C4, .int .u64 S1, .int .u64 t] 61)).alloc (.cells #[.int .i64 r1, .int .i64 r4, .int .u64 r2, .int .u64 r3, .bool kp] 71) ∧ k_ = y28.heap.size ∧ u_ = y28.heap.size + 1 := ⟨_, _, _, rfl, rfl, rfl⟩
            rw [← ex30, ← eu_, ← ek_]
            have hbx : Below y28.heap.size y28 x30 := by rw [ex30]; exact below_alloc2 _ _ _ 
            have o_I_K : i_ < k_ := by rw [ek_]; exact BI.out.lt
            have o_P_K : p_ < k_ := by rw [ek_]; exact BP.out.lt
            have o_X_K : x_ < k_ := by rw [ek_]; exact BX.out.lt
            have o_J_K : j_ < k_ := by rw [ek_]; exact BJ.out.lt
            have o_Q_K : q_ < k_ := by rw [ek_]; exact BQ.out.lt
            have o_Z_K : z_ < k_ := by rw [ek_]; exact BZ.out.lt
            have o_K_U : k_ < u_ := by omega
            have g_K : w.heap.size ≤ k_ := by rw [ek_]; exact hz_y28
            have BI := Lib.hid (BI.out.stays hbx)
            have BP := Lib.hid (BP.out.stays hbx)
            have BX := Lib.hid (BX.out.stays hbx)
            have BJ := Lib.hid (BJ.out.stays hbx)
            have BQ := Lib.hid (BQ.out.stays hbx)
            have BZ := Lib.hid (BZ.out.stays hbx)
            have T := Lib.hid (T.out.stays hbx)
            have M3 := Lib.hid (M3.out.stays hbx)
            have BK := Lib.hid (show Blk x30 k_ 61 #[.bool false, .bool true, .int .u64 0, .int .i64 0, .int .i64 C1, .int .i64 C4, .int .u64 S1, .int .u64 t] by rw [ex30, ek_]; exact blk_new2_0 _ _ _ _ _ )
            have BU := Lib.hid (show Blk x30 u_ 71 #[.int .i64 r1, .int .i64 r4, .int .u64 r2, .int .u64 r3, .bool kp] by rw [ex30, eu_]; exact blk_new2_1 _ _ _ _ _ )
            have R31 := Lib.hid (R29.out.trans (hbx.mono hz_y28))
            have hz_x30 := R31.out.size
            clear hbx ex30 ek_ eu_ R29 hz_y28
            have kX_0 : x30.cell? ⟨x_, 0, none⟩ = some (.int .i64 C1) := BX.out.cell 0
            have kX_1 : x30.cell? ⟨x_, 1, none⟩ = some (.int .i64 C4) := BX.out.cell 1
            have kX_2 : x30.cell? ⟨x_, 2, none⟩ = some (.int .u64 S1) := BX.out.cell 2
            have kX_3 : x30.cell? ⟨x_, 3, none⟩ = some (.int .u64 S3) := BX.out.cell 3
            have hkk : (kp != kp) = false := by cases kp <;> rfl
            go_upto_region 26 with fail
            clear kX_0 kX_1 kX_2 kX_3 hkk
            have FB3 := Lib.hid (rd_blt M3.out (by simp [echC]))
            have tlv := T.out.lt
            obtain ⟨x32, v_, ex32, ev_⟩ : ∃ x32 v_, x32 = x30.alloc (.cells #[.int .i64 C1, .int .i64 C4, .int .u64 S1, .int .u64 S3, .bool false] 71) ∧ v_ = x30.heap.size := ⟨_, _, rfl, rfl⟩
            rw [← ex32, ← ev_]
            have hbx : Below x30.heap.size x30 x32 := by rw [ex32]; exact below_alloc1 _ _ 
            have o_I_V : i_ < v_ := by rw [ev_]; exact BI.out.lt
            have o_P_V : p_ < v_ := by rw [ev_]; exact BP.out.lt
            have o_X_V : x_ < v_ := by rw [ev_]; exact BX.out.lt
            have o_J_V : j_ < v_ := by rw [ev_]; exact BJ.out.lt
            have o_Q_V : q_ < v_ := by rw [ev_]; exact BQ.out.lt
            have o_Z_V : z_ < v_ := by rw [ev_]; exact BZ.out.lt
            have o_K_V : k_ < v_ := by rw [ev_]; exact BK.out.lt
            have o_U_V : u_ < v_ := by rw [ev_]; exact BU.out.lt
            have g_V : w.heap.size ≤ v_ := by rw [ev_]; exact hz_x30
            have FMV : Hid (∀ x, A3 = some x → x.block ≠ v_) := fun x hx e => by have h1 := FB3.out x hx; rw [e, ev_] at h1; exact Nat.lt_irrefl _ h1
            have o_T_V : tb < v_ := by rw [ev_]; exact tlv
            clear FB3 tlv
            have BI := Lib.hid (BI.out.stays hbx)
            have BP := Lib.hid (BP.out.stays hbx)
            have BX := Lib.hid (BX.out.stays hbx)
            have BJ := Lib.hid (BJ.out.stays hbx)
            have BQ := Lib.hid (BQ.out.stays hbx)
            have BZ := Lib.hid (BZ.out.stays hbx)
            have BK := Lib.hid (BK.out.stays hbx)
            have BU := Lib.hid (BU.out.stays hbx)
            have T := Lib.hid (T.out.stays hbx)
            have M3 := Lib.hid (M3.out.stays hbx)
            have BV := Lib.hid (show Blk x32 v_ 71 #[.int .i64 C1, .int .i64 C4, .int .u64 S1, .int .u64 S3, .bool false] by rw [ex32, ev_]; exact blk_new1_0 _ _ _ )
            have R33 := Lib.hid (R31.out.trans (hbx.mono hz_x30))
            have hz_x32 := R33.out.size
            clear hbx ex32 ev_ R31 hz_x30
            cases kp with
            | false =>
              have hr : r1 = C1 ∧ r4 = C4 ∧ r2 = S1 ∧ r3 = S3 := by
                rcases HR.out with ⟨_, h1, h2, h3, h4⟩ | ⟨h, _⟩
                · exact ⟨h1, h2, h3, h4⟩
                · cases h
              have BU2 := BU.out
              rw [hr.1, hr.2.1, hr.2.2.1, hr.2.2.2] at BU2
              have BU := Lib.hid BU2
              clear BU2 hr HR HC HC2 HKK HRR2
              have kU_0 : x32.cell? ⟨u_, 0, none⟩ = some (.int .i64 C1) := BU.out.cell 0
              have kU_1 : x32.cell? ⟨u_, 1, none⟩ = some (.int .i64 C4) := BU.out.cell 1
              have kU_2 : x32.cell? ⟨u_, 2, none⟩ = some (.int .u64 S1) := BU.out.cell 2
              have kU_3 : x32.cell? ⟨u_, 3, none⟩ = some (.int .u64 S3) := BU.out.cell 3
              have kU_4 : x32.cell? ⟨u_, 4, none⟩ = some (.bool false) := BU.out.cell 4
              have kV_0 : x32.cell? ⟨v_, 0, none⟩ = some (.int .i64 C1) := BV.out.cell 0
              have kV_1 : x32.cell? ⟨v_, 1, none⟩ = some (.int .i64 C4) := BV.out.cell 1
              have kV_2 : x32.cell? ⟨v_, 2, none⟩ = some (.int .u64 S1) := BV.out.cell 2
              have kV_3 : x32.cell? ⟨v_, 3, none⟩ = some (.int .u64 S3) := BV.out.cell 3
              have kV_4 : x32.cell? ⟨v_, 4, none⟩ = some (.bool false) := BV.out.cell 4
              go_upto_region 30 with fail
              clear kU_0 kU_1 kU_2 kU_3 kU_4 kV_0 kV_1 kV_2 kV_3 kV_4
              have HNX := Lib.hid (HT.out.next (rc := S1) (tx := S3) (C' := C4) (S' := S3) (t := t) F1.out F2.out F3.out F4.out HJT.out)
              have HIP : Hid (i_ ≠ p_ ∧ tb ≠ i_ ∧ tb ≠ p_ ∧ w.heap.size ≤ i_ ∧ w.heap.size ≤ p_) := ⟨Nat.ne_of_lt o_I_P, Nat.ne_of_lt o_T_I, Nat.ne_of_lt (Nat.lt_trans o_T_I o_I_P), g_I, g_P⟩
              have HIP2 : Hid (i_ < p_) := o_I_P
              have n_I_P : ¬ i_ = p_ := Nat.ne_of_lt o_I_P
              have n_P_I : ¬ p_ = i_ := Nat.ne_of_gt o_I_P
              have n_K_I : ¬ k_ = i_ := Nat.ne_of_gt o_I_K
              have n_X_I : ¬ x_ = i_ := Nat.ne_of_gt o_I_X
              have n_I_K : ¬ i_ = k_ := Nat.ne_of_lt o_I_K
              have n_I_X : ¬ i_ = x_ := Nat.ne_of_lt o_I_X
              have n_X_P : ¬ x_ = p_ := Nat.ne_of_gt o_P_X
              have n_P_X : ¬ p_ = x_ := Nat.ne_of_lt o_P_X
              have n_K_P : ¬ k_ = p_ := Nat.ne_of_gt o_P_K
              have n_P_K : ¬ p_ = k_ := Nat.ne_of_lt o_P_K
              try clear o_I_I
              try clear o_I_P
              try clear o_I_X
              try clear o_I_J
              try clear o_I_Q
              try clear o_I_Z
              try clear o_I_K
              try clear o_I_U
              try clear o_I_V
              try clear o_I_T
              try clear o_P_I
              try clear o_P_P
              try clear o_P_X
              try clear o_P_J
              try clear o_P_Q
              try clear o_P_Z
              try clear o_P_K
              try clear o_P_U
              try clear o_P_V
              try clear o_P_T
              try clear o_X_I
              try clear o_X_P
              try clear o_X_X
              try clear o_X_J
              try clear o_X_Q
              try clear o_X_Z
              try clear o_X_K
              try clear o_X_U
              try clear o_X_V
              try clear o_X_T
              try clear o_J_I
              try clear o_J_P
              try clear o_J_X
              try clear o_J_J
              try clear o_J_Q
              try clear o_J_Z
              try clear o_J_K
              try clear o_J_U
              try clear o_J_V
              try clear o_J_T
              try clear o_Q_I
              try clear o_Q_P
              try clear o_Q_X
              try clear o_Q_J
              try clear o_Q_Q
              try clear o_Q_Z
              try clear o_Q_K
              try clear o_Q_U
              try clear o_Q_V
              try clear o_Q_T
              try clear o_Z_I
              try clear o_Z_P
              try clear o_Z_X
              try clear o_Z_J
              try clear o_Z_Q
              try clear o_Z_Z
              try clear o_Z_K
              try clear o_Z_U
              try clear o_Z_V
              try clear o_Z_T
              try clear o_K_I
              try clear o_K_P
              try clear o_K_X
              try clear o_K_J
              try clear o_K_Q
              try clear o_K_Z
              try clear o_K_K
              try clear o_K_U
              try clear o_K_V
              try clear o_K_T
              try clear o_U_I
              try clear o_U_P
              try clear o_U_X
              try clear o_U_J
              try clear o_U_Q
              try clear o_U_Z
              try clear o_U_K
              try clear o_U_U
              try clear o_U_V
              try clear o_U_T
              try clear o_V_I
              try clear o_V_P
              try clear o_V_X
              try clear o_V_J
              try clear o_V_Q
              try clear o_V_Z
              try clear o_V_K
              try clear o_V_U
              try clear o_V_V
              try clear o_V_T
              try clear o_T_I
              try clear o_T_P
              try clear o_T_X
              try clear o_T_J
              try clear o_T_Q
              try clear o_T_Z
              try clear o_T_K
              try clear o_T_U
              try clear o_T_V
              try clear o_T_T
              try clear g_I
              try clear g_P
              try clear g_X
              try clear g_J
              try clear g_Q
              try clear g_Z
              try clear g_K
              try clear g_U
              try clear g_V
              try clear g_T
              try clear eC1
              try clear ed2
              try clear ud2
              try clear eS1
              try clear uS1
              try clear eC4
              try clear um5
              try clear eS3
              try clear uS3
              try clear bm1
              try clear bm2
              try clear bm3
              try clear bm5
              try clear C1b
              try clear S1b
              try clear S2b
              try clear n2b
              try clear n1b
              try clear ht0
              try clear htm
              try clear hmb
              try clear cnn
              try clear ccc
              try clear HT
              try clear HJT
              try clear HMA
              try clear HOO
              try clear HRR
              try clear HKP
              try clear HF
              try clear HL
              try clear FMX
              try clear tin
              try clear lp_
              try clear hji
              try clear hz_wr
              try clear tge
              try clear tlt
              try clear eN
              try clear hvn
              try clear hvc2
              try clear V
              try clear sz_wr
              try clear BJ
              try clear BQ
              try clear BZ
              try clear BU
              try clear BV
              refine take_begin (S := fun w' => Blk w' k_ 61 #[.bool false, .bool true, .int .u64 0, .int .i64 0, .int .i64 C1, .int .i64 C4, .int .u64 S1, .int .u64 t] ∧ Blk w' x_ 64 #[.int .i64 C1, .int .i64 C4, .int .u64 S1, .int .u64 S3]) (by kernel_rfl) ?pr30_1 ⟨BK.out.drew, BX.out.drew⟩ (fun hPQ wb hbb hHeld => ?sr30_1)
              case pr30_1 => (repeat (with_reducible first | refine PQ.then ?_ | refine PQ.block ?_)); exact fun _ _ d _ _ h => by cases d <;> exact h
              case sr30_1 =>
                have BI := Lib.hid (BI.out.stays hbb)
                have BP := Lib.hid (BP.out.stays hbb)
                have T := Lib.hid (T.out.stays hbb)
                have M3 := Lib.hid (M3.out.stays hbb)
                have RB := Lib.hid (R33.out.trans (hbb.mono hz_x32))
                clear hbb
                refine take_val (i := 0) (d := (some 141)) (v := ?_) rfl rfl (by kernel_rfl) (by kernel_rfl) (by kernel_rfl) hPQ (by rfl) (fun wq hSw => ?_) hHeld ?_
                rotate_left 1
                · obtain ⟨hS1, hS2⟩ := hSw; have cK := hS1.cell; have cX := hS2.cell; clear hS1 hS2; go_simp; try with_reducible rfl
                try simp only [Act.put, List.setIfInBounds_toArray, List.set_cons_zero, List.set_cons_succ]
                refine take_val (i := 1) (d := (some 142)) (v := ?_) rfl rfl (by kernel_rfl) (by kernel_rfl) (by kernel_rfl) hPQ (by rfl) (fun wq hSw => ?_) hHeld ?_
                rotate_left 1
                · obtain ⟨hS1, hS2⟩ := hSw; have cK := hS1.cell; have cX := hS2.cell; clear hS1 hS2; go_simp; try with_reducible rfl
                try simp only [Act.put, List.setIfInBounds_toArray, List.set_cons_zero, List.set_cons_succ]
                refine take_val (i := 2) (d := (some 143)) (v := ?_) rfl rfl (by kernel_rfl) (by kernel_rfl) (by kernel_rfl) hPQ (by rfl) (fun wq hSw => ?_) hHeld ?_
                rotate_left 1
                · obtain ⟨hS1, hS2⟩ := hSw; have cK := hS1.cell; have cX := hS2.cell; clear hS1 hS2; go_simp; try with_reducible rfl
                try simp only [Act.put, List.setIfInBounds_toArray, List.set_cons_zero, List.set_cons_succ]
                refine take_store_eq (j := 3) (g := i_) (vs := [.bool false, .bool true, .int .u64 0, .int .i64 0, .int .i64 C1, .int .i64 C4, .int .u64 S1, .int .u64 t]) rfl rfl (by kernel_rfl) rfl BI.out rfl (fun cF zF => ?_) ⟨Blk.beside n_K_I _ _ _ hHeld.1, Blk.beside n_X_I _ _ _ hHeld.2⟩ ?_
                · go_simp; rfl
                clear hHeld
                intro w9 hw9 hHeld BI9
                have BP9 : Blk w9 p_ 64 #[.int .i64 b1, .int .i64 b4, .int .u64 b2, .int .u64 b3] := by rw [hw9]; exact Blk.beside n_P_I _ _ _ BP.out
                have HW9 := Lib.hid hw9
                clear hw9
                try simp only [Act.put, List.setIfInBounds_toArray, List.set_cons_zero, List.set_cons_succ]
                refine take_val (i := 4) (d := (some 7)) (v := ?_) rfl rfl (by kernel_rfl) (by kernel_rfl) (by kernel_rfl) hPQ (by rfl) (fun wq hSw => ?_) hHeld ?_
                rotate_left 1
                · obtain ⟨hS1, hS2⟩ := hSw; have cK := hS1.cell; have cX := hS2.cell; clear hS1 hS2; go_simp; try with_reducible rfl
                try simp only [Act.put, List.setIfInBounds_toArray, List.set_cons_zero, List.set_cons_succ]
                refine take_store_eq (j := 5) (g := p_) (vs := [.int .i64 C1, .int .i64 C4, .int .u64 S1, .int .u64 S3]) rfl rfl (by kernel_rfl) rfl BP9 rfl (fun cF zF => ?_) ⟨Blk.beside n_K_P _ _ _ hHeld.1, Blk.beside n_X_P _ _ _ hHeld.2⟩ ?_
                · go_simp; rfl
                clear hHeld
                intro wd hwd hHeld DP
                try simp only [Act.put, List.setIfInBounds_toArray, List.set_cons_zero, List.set_cons_succ]
                refine wpAnyH_done (by kernel_rfl) ?_ _
                clear hHeld BP9
                rw [HW9.out] at hwd
                clear HW9
                have DI : Blk wd i_ 61 #[.bool false, .bool true, .int .u64 0, .int .i64 0, .int .i64 C1, .int .i64 C4, .int .u64 S1, .int .u64 t] := by rw [hwd]; exact Blk.beside HIP.out.1 _ _ _ (BI.out.filled _ rfl)
                clear BI9
                have RD : Below w.heap.size w wd := by rw [hwd]; exact Below.stores HIP.out.2.2.2.2 _ _ _ (Below.stores HIP.out.2.2.2.1 _ _ _ RB.out)
                have DT := tape_two T.out HIP.out.2.2.2.1 HIP.out.2.2.2.2 HIP.out.2.1 HIP.out.2.2.1 [.bool false, .bool true, .int .u64 0, .int .i64 0, .int .i64 C1, .int .i64 C4, .int .u64 S1, .int .u64 t] [.int .i64 C1, .int .i64 C4, .int .u64 S1, .int .u64 S3]
                rw [← hwd] at DT
                have DM := echs_two M3.out HMF.out HIP2.out [.bool false, .bool true, .int .u64 0, .int .i64 0, .int .i64 C1, .int .i64 C4, .int .u64 S1, .int .u64 t] [.int .i64 C1, .int .i64 C4, .int .u64 S1, .int .u64 S3]
                rw [← hwd] at DM
                have DM1 := Lib.hid DM
                have DT1 := Lib.hid DT
                have DI1 := Lib.hid DI
                have DP1 := Lib.hid DP
                have RD1 := Lib.hid RD
                clear hwd DM DT DI DP RD
                go_wp2
                go_roundw
                case rel => exact ⟨j + 1, true, C1, C4, S1, S3, t, C4, S3, 1 + n2, c3, A3, (S1, S3) :: l2, _, by omega, by go_num, rfl, rfl, rfl, HNX.out, DT1.out, DI1.out, DP1.out, DM1.out, fun x hx => ⟨HMF.out x hx, rd_blt DM1.out (by simp [echC]) x hx⟩, RD1.out⟩
                case measure => simp [intOf]; omega
            | true =>
              have hr : r1 = b1 ∧ r4 = b4 ∧ r2 = b2 ∧ r3 = b3 := by
                rcases HR.out with ⟨h, _⟩ | ⟨_, h1, h2, h3, h4⟩
                · cases h
                · exact ⟨h1, h2, h3, h4⟩
              have BU2 := BU.out
              rw [hr.1, hr.2.1, hr.2.2.1, hr.2.2.2] at BU2
              have BU := Lib.hid BU2
              clear BU2 hr HR HC HC2 HKK HRR2
              have kP_0 : x32.cell? ⟨p_, 0, none⟩ = some (.int .i64 b1) := BP.out.cell 0
              have kP_1 : x32.cell? ⟨p_, 1, none⟩ = some (.int .i64 b4) := BP.out.cell 1
              have kP_2 : x32.cell? ⟨p_, 2, none⟩ = some (.int .u64 b2) := BP.out.cell 2
              have kP_3 : x32.cell? ⟨p_, 3, none⟩ = some (.int .u64 b3) := BP.out.cell 3
              have fV_0 := BV.out.frozen 0
              have fV_1 := BV.out.frozen 1
              have fV_2 := BV.out.frozen 2
              have fV_3 := BV.out.frozen 3
              have fV_4 := BV.out.frozen 4
              have kV_0 : x32.cell? ⟨v_, 0, none⟩ = some (.int .i64 C1) := BV.out.cell 0
              have kV_1 : x32.cell? ⟨v_, 1, none⟩ = some (.int .i64 C4) := BV.out.cell 1
              have kV_2 : x32.cell? ⟨v_, 2, none⟩ = some (.int .u64 S1) := BV.out.cell 2
              have kV_3 : x32.cell? ⟨v_, 3, none⟩ = some (.int .u64 S3) := BV.out.cell 3
              have kV_4 : x32.cell? ⟨v_, 4, none⟩ = some (.bool false) := BV.out.cell 4
              go_upto_region 28 with fail
              clear kP_0 kP_1 kP_2 kP_3 fV_0 fV_1 fV_2 fV_3 fV_4 kV_0 kV_1 kV_2 kV_3 kV_4
              obtain ⟨x34, ex34⟩ : ∃ x34, x34 = ((((x32.setCell ⟨v_, 0, none⟩ (.int .i64 b1)).setCell ⟨v_, 1, none⟩ (.int .i64 b4)).setCell ⟨v_, 2, none⟩ (.int .u64 b2)).setCell ⟨v_, 3, none⟩ (.int .u64 b3)).setCell ⟨v_, 4, none⟩ (.bool true) := ⟨_, rfl⟩
              rw [← ex34]
              have BI := Lib.hid (show Blk x34 i_ 61 #[.bool false, .bool k, .int .u64 0, .int .i64 0, .int .i64 b1, .int .i64 b4, .int .u64 b2, .int .u64 ma] from by rw [ex34]; exact (((((BI.out.far (p := ⟨v_, 0, none⟩) (by simp only []; omega) _).far (p := ⟨v_, 1, none⟩) (by simp only []; omega) _).far (p := ⟨v_, 2, none⟩) (by simp only []; omega) _).far (p := ⟨v_, 3, none⟩) (by simp only []; omega) _).far (p := ⟨v_, 4, none⟩) (by simp only []; omega) _))
              have BP := Lib.hid (show Blk x34 p_ 64 #[.int .i64 b1, .int .i64 b4, .int .u64 b2, .int .u64 b3] from by rw [ex34]; exact (((((BP.out.far (p := ⟨v_, 0, none⟩) (by simp only []; omega) _).far (p := ⟨v_, 1, none⟩) (by simp only []; omega) _).far (p := ⟨v_, 2, none⟩) (by simp only []; omega) _).far (p := ⟨v_, 3, none⟩) (by simp only []; omega) _).far (p := ⟨v_, 4, none⟩) (by simp only []; omega) _))
              have BX := Lib.hid (show Blk x34 x_ 64 #[.int .i64 C1, .int .i64 C4, .int .u64 S1, .int .u64 S3] from by rw [ex34]; exact (((((BX.out.far (p := ⟨v_, 0, none⟩) (by simp only []; omega) _).far (p := ⟨v_, 1, none⟩) (by simp only []; omega) _).far (p := ⟨v_, 2, none⟩) (by simp only []; omega) _).far (p := ⟨v_, 3, none⟩) (by simp only []; omega) _).far (p := ⟨v_, 4, none⟩) (by simp only []; omega) _))
              have BJ := Lib.hid (show Blk x34 j_ 61 #[.bool true, .bool k, .int .u64 t, .int .i64 C1, .int .i64 b1, .int .i64 b4, .int .u64 b2, .int .u64 ma] from by rw [ex34]; exact (((((BJ.out.far (p := ⟨v_, 0, none⟩) (by simp only []; omega) _).far (p := ⟨v_, 1, none⟩) (by simp only []; omega) _).far (p := ⟨v_, 2, none⟩) (by simp only []; omega) _).far (p := ⟨v_, 3, none⟩) (by simp only []; omega) _).far (p := ⟨v_, 4, none⟩) (by simp only []; omega) _))
              have BQ := Lib.hid (show Blk x34 q_ 25 #[.int .i64 0, .int .i64 4, .int .i64 3, .int .i64 0, .int .i64 6, .int .i64 0, .int .u32 0, .int .u32 0, .int .u32 0, .int .u64 0, .int .u64 oo, .int .u64 rr, .int .u64 t] from by rw [ex34]; exact (((((BQ.out.far (p := ⟨v_, 0, none⟩) (by simp only []; omega) _).far (p := ⟨v_, 1, none⟩) (by simp only []; omega) _).far (p := ⟨v_, 2, none⟩) (by simp only []; omega) _).far (p := ⟨v_, 3, none⟩) (by simp only []; omega) _).far (p := ⟨v_, 4, none⟩) (by simp only []; omega) _))
              have BZ := Lib.hid (show Blk x34 z_ 25 #[.int .i64 0, .int .i64 4, .int .i64 4, .int .i64 2, .int .i64 6, .int .i64 (-20), .int .u32 0, .int .u32 0, .int .u32 0, .int .u64 0, .int .u64 oT, .int .u64 S1, .int .u64 tT] from by rw [ex34]; exact (((((BZ.out.far (p := ⟨v_, 0, none⟩) (by simp only []; omega) _).far (p := ⟨v_, 1, none⟩) (by simp only []; omega) _).far (p := ⟨v_, 2, none⟩) (by simp only []; omega) _).far (p := ⟨v_, 3, none⟩) (by simp only []; omega) _).far (p := ⟨v_, 4, none⟩) (by simp only []; omega) _))
              have BK := Lib.hid (show Blk x34 k_ 61 #[.bool false, .bool true, .int .u64 0, .int .i64 0, .int .i64 C1, .int .i64 C4, .int .u64 S1, .int .u64 t] from by rw [ex34]; exact (((((BK.out.far (p := ⟨v_, 0, none⟩) (by simp only []; omega) _).far (p := ⟨v_, 1, none⟩) (by simp only []; omega) _).far (p := ⟨v_, 2, none⟩) (by simp only []; omega) _).far (p := ⟨v_, 3, none⟩) (by simp only []; omega) _).far (p := ⟨v_, 4, none⟩) (by simp only []; omega) _))
              have BU := Lib.hid (show Blk x34 u_ 71 #[.int .i64 b1, .int .i64 b4, .int .u64 b2, .int .u64 b3, .bool true] from by rw [ex34]; exact (((((BU.out.far (p := ⟨v_, 0, none⟩) (by simp only []; omega) _).far (p := ⟨v_, 1, none⟩) (by simp only []; omega) _).far (p := ⟨v_, 2, none⟩) (by simp only []; omega) _).far (p := ⟨v_, 3, none⟩) (by simp only []; omega) _).far (p := ⟨v_, 4, none⟩) (by simp only []; omega) _))
              have BV := Lib.hid (show Blk x34 v_ 71 #[.int .i64 b1, .int .i64 b4, .int .u64 b2, .int .u64 b3, .bool true] from by rw [ex34]; exact (((((BV.out.put 0 _).put 1 _).put 2 _).put 3 _).put 4 _))
              have R35 := Lib.hid (show Below w.heap.size w x34 from by rw [ex34]; exact (((((R33.out.setCell (p := ⟨v_, 0, none⟩) (by simp only []; omega) _).setCell (p := ⟨v_, 1, none⟩) (by simp only []; omega) _).setCell (p := ⟨v_, 2, none⟩) (by simp only []; omega) _).setCell (p := ⟨v_, 3, none⟩) (by simp only []; omega) _).setCell (p := ⟨v_, 4, none⟩) (by simp only []; omega) _))
              have hz_x34 := R35.out.size
              clear R33 hz_x32
              have M3 := Lib.hid (show Echs x34 _ _ _ _ from by rw [ex34]; exact echs_one M3.out FMV.out [.int .i64 b1, .int .i64 b4, .int .u64 b2, .int .u64 b3, .bool true])
              have T := Lib.hid (show Tape _ x34 _ _ _ from by rw [ex34]; exact tape_one T.out g_V (Nat.ne_of_lt o_T_V) [.int .i64 b1, .int .i64 b4, .int .u64 b2, .int .u64 b3, .bool true])
              clear ex34
              have kU_0 : x34.cell? ⟨u_, 0, none⟩ = some (.int .i64 b1) := BU.out.cell 0
              have kU_1 : x34.cell? ⟨u_, 1, none⟩ = some (.int .i64 b4) := BU.out.cell 1
              have kU_2 : x34.cell? ⟨u_, 2, none⟩ = some (.int .u64 b2) := BU.out.cell 2
              have kU_3 : x34.cell? ⟨u_, 3, none⟩ = some (.int .u64 b3) := BU.out.cell 3
              have kU_4 : x34.cell? ⟨u_, 4, none⟩ = some (.bool true) := BU.out.cell 4
              have kV_0 : x34.cell? ⟨v_, 0, none⟩ = some (.int .i64 b1) := BV.out.cell 0
              have kV_1 : x34.cell? ⟨v_, 1, none⟩ = some (.int .i64 b4) := BV.out.cell 1
              have kV_2 : x34.cell? ⟨v_, 2, none⟩ = some (.int .u64 b2) := BV.out.cell 2
              have kV_3 : x34.cell? ⟨v_, 3, none⟩ = some (.int .u64 b3) := BV.out.cell 3
              have kV_4 : x34.cell? ⟨v_, 4, none⟩ = some (.bool true) := BV.out.cell 4
              go_upto_region 30 with fail
              clear kU_0 kU_1 kU_2 kU_3 kU_4 kV_0 kV_1 kV_2 kV_3 kV_4
              have HNX := Lib.hid (HT.out.next (rc := S1) (tx := S3) (C' := C4) (S' := S3) (t := t) F1.out F2.out F3.out F4.out HJT.out)
              have HIP : Hid (i_ ≠ p_ ∧ tb ≠ i_ ∧ tb ≠ p_ ∧ w.heap.size ≤ i_ ∧ w.heap.size ≤ p_) := ⟨Nat.ne_of_lt o_I_P, Nat.ne_of_lt o_T_I, Nat.ne_of_lt (Nat.lt_trans o_T_I o_I_P), g_I, g_P⟩
              have HIP2 : Hid (i_ < p_) := o_I_P
              have n_I_P : ¬ i_ = p_ := Nat.ne_of_lt o_I_P
              have n_P_I : ¬ p_ = i_ := Nat.ne_of_gt o_I_P
              have n_K_I : ¬ k_ = i_ := Nat.ne_of_gt o_I_K
              have n_X_I : ¬ x_ = i_ := Nat.ne_of_gt o_I_X
              have n_I_K : ¬ i_ = k_ := Nat.ne_of_lt o_I_K
              have n_I_X : ¬ i_ = x_ := Nat.ne_of_lt o_I_X
              have n_X_P : ¬ x_ = p_ := Nat.ne_of_gt o_P_X
              have n_P_X : ¬ p_ = x_ := Nat.ne_of_lt o_P_X
              have n_K_P : ¬ k_ = p_ := Nat.ne_of_gt o_P_K
              have n_P_K : ¬ p_ = k_ := Nat.ne_of_lt o_P_K
              try clear o_I_I
              try clear o_I_P
              try clear o_I_X
              try clear o_I_J
              try clear o_I_Q
              try clear o_I_Z
              try clear o_I_K
              try clear o_I_U
              try clear o_I_V
              try clear o_I_T
              try clear o_P_I
              try clear o_P_P
              try clear o_P_X
              try clear o_P_J
              try clear o_P_Q
              try clear o_P_Z
              try clear o_P_K
              try clear o_P_U
              try clear o_P_V
              try clear o_P_T
              try clear o_X_I
              try clear o_X_P
              try clear o_X_X
              try clear o_X_J
              try clear o_X_Q
              try clear o_X_Z
              try clear o_X_K
              try clear o_X_U
              try clear o_X_V
              try clear o_X_T
              try clear o_J_I
              try clear o_J_P
              try clear o_J_X
              try clear o_J_J
              try clear o_J_Q
              try clear o_J_Z
              try clear o_J_K
              try clear o_J_U
              try clear o_J_V
              try clear o_J_T
              try clear o_Q_I
              try clear o_Q_P
              try clear o_Q_X
              try clear o_Q_J
              try clear o_Q_Q
              try clear o_Q_Z
              try clear o_Q_K
              try clear o_Q_U
              try clear o_Q_V
              try clear o_Q_T
              try clear o_Z_I
              try clear o_Z_P
              try clear o_Z_X
              try clear o_Z_J
              try clear o_Z_Q
              try clear o_Z_Z
              try clear o_Z_K
              try clear o_Z_U
              try clear o_Z_V
              try clear o_Z_T
              try clear o_K_I
              try clear o_K_P
              try clear o_K_X
              try clear o_K_J
              try clear o_K_Q
              try clear o_K_Z
              try clear o_K_K
              try clear o_K_U
              try clear o_K_V
              try clear o_K_T
              try clear o_U_I
              try clear o_U_P
              try clear o_U_X
              try clear o_U_J
              try clear o_U_Q
              try clear o_U_Z
              try clear o_U_K
              try clear o_U_U
              try clear o_U_V
              try clear o_U_T
              try clear o_V_I
              try clear o_V_P
              try clear o_V_X
              try clear o_V_J
              try clear o_V_Q
              try clear o_V_Z
              try clear o_V_K
              try clear o_V_U
              try clear o_V_V
              try clear o_V_T
              try clear o_T_I
              try clear o_T_P
              try clear o_T_X
              try clear o_T_J
              try clear o_T_Q
              try clear o_T_Z
              try clear o_T_K
              try clear o_T_U
              try clear o_T_V
              try clear o_T_T
              try clear g_I
              try clear g_P
              try clear g_X
              try clear g_J
              try clear g_Q
              try clear g_Z
              try clear g_K
              try clear g_U
              try clear g_V
              try clear g_T
              try clear eC1
              try clear ed2
              try clear ud2
              try clear eS1
              try clear uS1
              try clear eC4
              try clear um5
              try clear eS3
              try clear uS3
              try clear bm1
              try clear bm2
              try clear bm3
              try clear bm5
              try clear C1b
              try clear S1b
              try clear S2b
              try clear n2b
              try clear n1b
              try clear ht0
              try clear htm
              try clear hmb
              try clear cnn
              try clear ccc
              try clear HT
              try clear HJT
              try clear HMA
              try clear HOO
              try clear HRR
              try clear HKP
              try clear HF
              try clear HL
              try clear FMX
              try clear tin
              try clear lp_
              try clear hji
              try clear hz_wr
              try clear tge
              try clear tlt
              try clear eN
              try clear hvn
              try clear hvc2
              try clear V
              try clear sz_wr
              try clear BJ
              try clear BQ
              try clear BZ
              try clear BU
              try clear BV
              refine take_begin (S := fun w' => Blk w' k_ 61 #[.bool false, .bool true, .int .u64 0, .int .i64 0, .int .i64 C1, .int .i64 C4, .int .u64 S1, .int .u64 t] ∧ Blk w' x_ 64 #[.int .i64 C1, .int .i64 C4, .int .u64 S1, .int .u64 S3]) (by kernel_rfl) ?pr30_6 ⟨BK.out.drew, BX.out.drew⟩ (fun hPQ wb hbb hHeld => ?sr30_6)
              case pr30_6 => (repeat (with_reducible first | refine PQ.then ?_ | refine PQ.block ?_)); exact fun _ _ d _ _ h => by cases d <;> exact h
              case sr30_6 =>
                have BI := Lib.hid (BI.out.stays hbb)
                have BP := Lib.hid (BP.out.stays hbb)
                have T := Lib.hid (T.out.stays hbb)
                have M3 := Lib.hid (M3.out.stays hbb)
                have RB := Lib.hid (R35.out.trans (hbb.mono hz_x34))
                clear hbb
                refine take_val (i := 0) (d := (some 141)) (v := ?_) rfl rfl (by kernel_rfl) (by kernel_rfl) (by kernel_rfl) hPQ (by rfl) (fun wq hSw => ?_) hHeld ?_
                rotate_left 1
                · obtain ⟨hS1, hS2⟩ := hSw; have cK := hS1.cell; have cX := hS2.cell; clear hS1 hS2; go_simp; try with_reducible rfl
                try simp only [Act.put, List.setIfInBounds_toArray, List.set_cons_zero, List.set_cons_succ]
                refine take_val (i := 1) (d := (some 142)) (v := ?_) rfl rfl (by kernel_rfl) (by kernel_rfl) (by kernel_rfl) hPQ (by rfl) (fun wq hSw => ?_) hHeld ?_
                rotate_left 1
                · obtain ⟨hS1, hS2⟩ := hSw; have cK := hS1.cell; have cX := hS2.cell; clear hS1 hS2; go_simp; try with_reducible rfl
                try simp only [Act.put, List.setIfInBounds_toArray, List.set_cons_zero, List.set_cons_succ]
                refine take_val (i := 2) (d := (some 143)) (v := ?_) rfl rfl (by kernel_rfl) (by kernel_rfl) (by kernel_rfl) hPQ (by rfl) (fun wq hSw => ?_) hHeld ?_
                rotate_left 1
                · obtain ⟨hS1, hS2⟩ := hSw; have cK := hS1.cell; have cX := hS2.cell; clear hS1 hS2; go_simp; try with_reducible rfl
                try simp only [Act.put, List.setIfInBounds_toArray, List.set_cons_zero, List.set_cons_succ]
                refine take_store_eq (j := 3) (g := i_) (vs := [.bool false, .bool true, .int .u64 0, .int .i64 0, .int .i64 C1, .int .i64 C4, .int .u64 S1, .int .u64 t]) rfl rfl (by kernel_rfl) rfl BI.out rfl (fun cF zF => ?_) ⟨Blk.beside n_K_I _ _ _ hHeld.1, Blk.beside n_X_I _ _ _ hHeld.2⟩ ?_
                · go_simp; rfl
                clear hHeld
                intro w9 hw9 hHeld BI9
                have BP9 : Blk w9 p_ 64 #[.int .i64 b1, .int .i64 b4, .int .u64 b2, .int .u64 b3] := by rw [hw9]; exact Blk.beside n_P_I _ _ _ BP.out
                have HW9 := Lib.hid hw9
                clear hw9
                try simp only [Act.put, List.setIfInBounds_toArray, List.set_cons_zero, List.set_cons_succ]
                refine take_val (i := 4) (d := (some 7)) (v := ?_) rfl rfl (by kernel_rfl) (by kernel_rfl) (by kernel_rfl) hPQ (by rfl) (fun wq hSw => ?_) hHeld ?_
                rotate_left 1
                · obtain ⟨hS1, hS2⟩ := hSw; have cK := hS1.cell; have cX := hS2.cell; clear hS1 hS2; go_simp; try with_reducible rfl
                try simp only [Act.put, List.setIfInBounds_toArray, List.set_cons_zero, List.set_cons_succ]
                refine take_store_eq (j := 5) (g := p_) (vs := [.int .i64 C1, .int .i64 C4, .int .u64 S1, .int .u64 S3]) rfl rfl (by kernel_rfl) rfl BP9 rfl (fun cF zF => ?_) ⟨Blk.beside n_K_P _ _ _ hHeld.1, Blk.beside n_X_P _ _ _ hHeld.2⟩ ?_
                · go_simp; rfl
                clear hHeld
                intro wd hwd hHeld DP
                try simp only [Act.put, List.setIfInBounds_toArray, List.set_cons_zero, List.set_cons_succ]
                refine wpAnyH_done (by kernel_rfl) ?_ _
                clear hHeld BP9
                rw [HW9.out] at hwd
                clear HW9
                have DI : Blk wd i_ 61 #[.bool false, .bool true, .int .u64 0, .int .i64 0, .int .i64 C1, .int .i64 C4, .int .u64 S1, .int .u64 t] := by rw [hwd]; exact Blk.beside HIP.out.1 _ _ _ (BI.out.filled _ rfl)
                clear BI9
                have RD : Below w.heap.size w wd := by rw [hwd]; exact Below.stores HIP.out.2.2.2.2 _ _ _ (Below.stores HIP.out.2.2.2.1 _ _ _ RB.out)
                have DT := tape_two T.out HIP.out.2.2.2.1 HIP.out.2.2.2.2 HIP.out.2.1 HIP.out.2.2.1 [.bool false, .bool true, .int .u64 0, .int .i64 0, .int .i64 C1, .int .i64 C4, .int .u64 S1, .int .u64 t] [.int .i64 C1, .int .i64 C4, .int .u64 S1, .int .u64 S3]
                rw [← hwd] at DT
                have DM := echs_two M3.out HMF.out HIP2.out [.bool false, .bool true, .int .u64 0, .int .i64 0, .int .i64 C1, .int .i64 C4, .int .u64 S1, .int .u64 t] [.int .i64 C1, .int .i64 C4, .int .u64 S1, .int .u64 S3]
                rw [← hwd] at DM
                have DM1 := Lib.hid DM
                have DT1 := Lib.hid DT
                have DI1 := Lib.hid DI
                have DP1 := Lib.hid DP
                have RD1 := Lib.hid RD
                clear hwd DM DT DI DP RD
                go_wp2
                go_roundw
                case rel => exact ⟨j + 1, true, C1, C4, S1, S3, t, C4, S3, 1 + n2, c3, A3, (S1, S3) :: l2, _, by omega, by go_num, rfl, rfl, rfl, HNX.out, DT1.out, DI1.out, DP1.out, DM1.out, fun x hx => ⟨HMF.out x hx, rd_blt DM1.out (by simp [echC]) x hx⟩, RD1.out⟩
                case measure => simp [intOf]; omega
    · obtain rfl : j = 1 + N := by omega
      clear HT
      go_wp2_with fail
      refine (ilKnown _).mono ?_
      rintro e w1 ⟨rfl, hb⟩
      have RE := RW.out.trans (hb.mono hz_wr)
      clear hb
      go_wp2
      go_ret
      exact ⟨rfl, RE⟩
end Go.Proofs.Ytnpfndlmbaafaaa
