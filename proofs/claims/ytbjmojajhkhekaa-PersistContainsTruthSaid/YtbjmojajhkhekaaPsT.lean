/- The walk of PersistSurvivesTornWrites. -/
import Derived.Test.YtbjmojajhkhekaaPsI
import Derived.Test.YtbjmojajhkhekaaPsJ
import Derived.Test.YtbjmojajhkhekaaWithin
namespace Go.Proofs.Ytbjmojajhkhekaa
open Go.RowKit

theorem loadR_saved (cn at_ lo hi pp le re : Int) (b_cn : -9223372036854775808 ≤ cn ∧ cn ≤ 9223372036854775807) (b_at_ : -9223372036854775808 ≤ at_ ∧ at_ ≤ 9223372036854775807) (b_lo : -9223372036854775808 ≤ lo ∧ lo ≤ 9223372036854775807) (b_hi : -9223372036854775808 ≤ hi ∧ hi ≤ 9223372036854775807) (b_pp : -9223372036854775808 ≤ pp ∧ pp ≤ 9223372036854775807) (b_le : -9223372036854775808 ≤ le ∧ le ≤ 9223372036854775807) (b_re : -9223372036854775808 ≤ re ∧ re ≤ 9223372036854775807) (h0 : svE cn at_ lo hi pp le re = 0) : loadR (saveL [cn, at_, lo, hi, pp, le, re]) = ([cn, at_, lo, hi, pp, le, re], 0) := by
  have hl : (saveL [cn, at_, lo, hi, pp, le, re]).length = 80 := by unfold saveL; rw [List.length_append, bodyL_len, shortL_length]
  unfold loadR
  rw [if_neg (by omega), if_neg (by omega), if_neg (fun h => h (saveL_magic cn at_ lo hi pp le re)), if_neg (fun h => h (by rw [saveL_take, saveL_drop])), saveL_1 cn at_ lo hi pp le re b_cn, saveL_2 cn at_ lo hi pp le re b_at_, saveL_3 cn at_ lo hi pp le re b_lo, saveL_4 cn at_ lo hi pp le re b_hi, saveL_5 cn at_ lo hi pp le re b_pp, saveL_6 cn at_ lo hi pp le re b_le, saveL_7 cn at_ lo hi pp le re b_re, if_pos h0]
theorem madeOk.sv2 {cn at_ lo hi pp le re : Int} (h : madeOk cn at_ lo hi pp le re) (n : Int) (h0 : 0 ≤ n) (h1 : n ≤ 20) : svE n at_ lo hi pp le re = 0 := by
  unfold madeOk at h
  have g1 : spanOk lo hi := by unfold spanOk tickOk; omega
  have g2 : tickOk at_ ∧ 0 ≤ pp ∧ pp ≤ 1000000 ∧ cntOk le ∧ cntOk re := by unfold tickOk cntOk; omega
  have g3 : cntOk n := by unfold cntOk; omega
  have hk : knE at_ lo hi pp le re = 0 := (if_pos g1).trans (if_pos g2)
  exact (if_pos hk).trans (if_pos g3)
theorem madeOk.R {cn at_ lo hi pp le re : Int} (h : madeOk cn at_ lo hi pp le re) (n : Int) (h0 : 0 ≤ n) (h1 : n ≤ 20) : loadR (saveL [n, at_, lo, hi, pp, le, re]) = ([n, at_, lo, hi, pp, le, re], 0) := by
  have hs := h.sv2 n h0 h1
  unfold madeOk at h
  exact loadR_saved n at_ lo hi pp le re (by omega) (by omega) (by omega) (by omega) (by omega) (by omega) (by omega) hs
theorem nvE_ok (la lb : List UInt8) (h : lvE lb = 0) : nvE la lb = 0 := by
  unfold nvE
  rw [if_neg]
  unfold nwK
  rw [if_neg (fun g => g.2 h)]
  split <;> decide
set_option maxRecDepth 100000 in
set_option maxHeartbeats 4000000 in
theorem persistTorn_walk (A0 : Option Addr) (n0 c0 : Nat) (l : List Int) (x : Int) (w : World) (hv : Rd w 1 A0 n0 c0 (l.map (Value.int .i64))) :
    Calls Try.prog 8 #[.slice A0 n0 c0, .int .i64 x] w fun e w' => e = .returned (.bool true) ∧ Below w.heap.size w w' := by
  have V0 := Lib.hid hv
  have q1 := hv.2.1
  have q2 : c0 ≤ 9223372036854775807 := by have := hv.2.2.1; unfold maxLen at this; omega
  clear hv
  go_enter Try.func8, Try.ntmps8
  go_wp2_with fail
  refine (tape_new A0 n0 c0 l _ V0.out (by omega)).mono ?_
  rintro e y1 ⟨tb, rfl, ht, hb⟩
  have hbx : Below w.heap.size w y1 := below_via (by go_grown) hb (by first | (simp; done) | (simp; omega))
  have T := Lib.hid ht
  have R2 := Lib.hid hbx
  have hz_y1 := R2.out.size
  clear hb hbx ht
  have tge : w.heap.size ≤ tb := T.out.ge
  have O : Hid (y1.grownBy y1 (some tb)) := World.grownBy.refl _ _
  go_wp2_with fail
  refine (made_any _ _ _ _ _ T.out).mono ?_
  rintro e y3 ⟨cn, at_, lo, hi, pp, le, re, kk4, rfl, hm, ht, ho⟩
  have O := Lib.hid (O.out.trans ho)
  have T := Lib.hid ht
  clear ht ho
  have M1 := Lib.hid hm
  clear hm
  go_wp2_with fail
  refine (made_any _ _ _ _ _ T.out).mono ?_
  rintro e y5 ⟨d2, at2, lo2, hi2, pp2, le2, re2, kk6, rfl, hm, ht, ho⟩
  have O := Lib.hid (O.out.trans ho)
  have T := Lib.hid ht
  clear ht ho
  have M2 := Lib.hid hm
  clear hm
  go_wp2_with fail
  refine (made_any _ _ _ _ _ T.out).mono ?_
  rintro e y7 ⟨d3, at3, lo3, hi3, pp3, le3, re3, kk8, rfl, hm, ht, ho⟩
  have O := Lib.hid (O.out.trans ho)
  have T := Lib.hid ht
  clear ht ho
  have M3 := Lib.hid hm
  clear hm
  have R9 := Lib.hid (R2.out.trans ((Below.refl _ y1).grown O.out hz_y1 (fun k hk => by simp at hk; subst hk; exact tge)))
  have hz_y7 := R9.out.size
  clear O T R2 hz_y1 tge
  go_upto_region 3 with fail
  obtain ⟨x10, s_, u_, v_, ex10, es_, eu_, ev_⟩ : ∃ x10 s_ u_ v_, x10 = ((y7.alloc (.cells #[.int .i64 cn, .int .i64 at_, .int .i64 lo, .int .i64 hi, .int .i64 pp, .int .i64 le, .int .i64 re] 41)).alloc (.cells #[.int .i64 d2, .int .i64 at2, .int .i64 lo2, .int .i64 hi2, .int .i64 pp2, .int .i64 le2, .int .i64 re2] 41)).alloc (.cells #[.int .i64 d3, .int .i64 at3, .int .i64 lo3, .int .i64 hi3, .int .i64 pp3, .int .i64 le3, .int .i64 re3] 41) ∧ s_ = y7.heap.size ∧ u_ = y7.heap.size + 1 ∧ v_ = y7.heap.size + 1 + 1 := ⟨_, _, _, _, rfl, rfl, rfl, rfl⟩
  rw [← ex10, ← ev_, ← eu_, ← es_]
  have hbx : Below y7.heap.size y7 x10 := by rw [ex10]; exact below_alloc3 _ _ _ _ 
  have o_S_U : s_ < u_ := by omega
  have o_U_V : u_ < v_ := by omega
  have g_S : w.heap.size ≤ s_ := by rw [es_]; exact hz_y7
  have BS := Lib.hid (show Blk x10 s_ 41 #[.int .i64 cn, .int .i64 at_, .int .i64 lo, .int .i64 hi, .int .i64 pp, .int .i64 le, .int .i64 re] by rw [ex10, es_]; exact blk_new3_0 _ _ _ _ _ _ _ )
  have BU := Lib.hid (show Blk x10 u_ 41 #[.int .i64 d2, .int .i64 at2, .int .i64 lo2, .int .i64 hi2, .int .i64 pp2, .int .i64 le2, .int .i64 re2] by rw [ex10, eu_]; exact blk_new3_1 _ _ _ _ _ _ _ )
  have BV := Lib.hid (show Blk x10 v_ 41 #[.int .i64 d3, .int .i64 at3, .int .i64 lo3, .int .i64 hi3, .int .i64 pp3, .int .i64 le3, .int .i64 re3] by rw [ex10, ev_]; exact blk_new3_2 _ _ _ _ _ _ _ )
  have R11 := Lib.hid (R9.out.trans (hbx.mono hz_y7))
  have hz_x10 := R11.out.size
  clear hbx ex10 es_ eu_ ev_ R9 hz_y7
  have hc0 : 0 ≤ cn := M1.out.1
  have hc9 : cn < 9 := M1.out.2.1
  obtain ⟨c1, hc1⟩ : ∃ c1 : Int, cn + 1 = c1 := ⟨_, rfl⟩
  obtain ⟨c2, hc2⟩ : ∃ c2 : Int, cn + 2 = c2 := ⟨_, rfl⟩
  have wc1 : IntKind.i64.wrap c1 = c1 := IntWalk.i64_in _ (by omega)
  have wc2 : IntKind.i64.wrap c2 = c2 := IntWalk.i64_in _ (by omega)
  have n_S_U : ¬ s_ = u_ := by omega
  have n_U_S : ¬ u_ = s_ := by omega
  have n_S_V : ¬ s_ = v_ := by omega
  have n_V_S : ¬ v_ = s_ := by omega
  have n_U_V : ¬ u_ = v_ := by omega
  have n_V_U : ¬ v_ = u_ := by omega
  have kS_0 : x10.cell? ⟨s_, 0, none⟩ = some (.int .i64 cn) := BS.out.cell 0
  have kU_0 : x10.cell? ⟨u_, 0, none⟩ = some (.int .i64 d2) := BU.out.cell 0
  have kV_0 : x10.cell? ⟨v_, 0, none⟩ = some (.int .i64 d3) := BV.out.cell 0
  have fU_0 := BU.out.frozen 0
  have fV_0 := BV.out.frozen 0
  go_region
  clear kS_0 kU_0 kV_0 fU_0 fV_0
  generalize ex : World.drew (World.setCell _ ⟨v_, 0, none⟩ _) = xw
  have ex2 : ((x10.setCell ⟨u_, 0, none⟩ (.int .i64 c1)).setCell ⟨v_, 0, none⟩ (.int .i64 c2)).drew = xw := ex
  have BS := Lib.hid (show Blk xw s_ 41 #[.int .i64 cn, .int .i64 at_, .int .i64 lo, .int .i64 hi, .int .i64 pp, .int .i64 le, .int .i64 re] by rw [← ex2]; exact (((BS.out.far (p := ⟨u_, 0, none⟩) (by simp only []; omega) _).far (p := ⟨v_, 0, none⟩) (by simp only []; omega) _)).drew)
  have BU := Lib.hid (show Blk xw u_ 41 #[.int .i64 c1, .int .i64 at2, .int .i64 lo2, .int .i64 hi2, .int .i64 pp2, .int .i64 le2, .int .i64 re2] by rw [← ex2]; exact (((BU.out.put 0 _).far (p := ⟨v_, 0, none⟩) (by simp only []; omega) _)).drew)
  have BV := Lib.hid (show Blk xw v_ 41 #[.int .i64 c2, .int .i64 at3, .int .i64 lo3, .int .i64 hi3, .int .i64 pp3, .int .i64 le3, .int .i64 re3] by rw [← ex2]; exact (((BV.out.far (p := ⟨u_, 0, none⟩) (by simp only []; omega) _).put 0 _)).drew)
  have RE := Lib.hid (show Below w.heap.size w xw by rw [← ex2]; exact ((R11.out.setCell (p := ⟨u_, 0, none⟩) (by simp only []; omega) _).setCell (p := ⟨v_, 0, none⟩) (by simp only []; omega) _).drew)
  have hz_xw := RE.out.size
  clear ex ex2 R11 hz_x10 wc1 wc2
  have G1 := Lib.hid (M1.out.R cn hc0 (by omega))
  have G2 := Lib.hid (M2.out.R c1 (by omega) (by omega))
  have G3 := Lib.hid (M3.out.R c2 (by omega) (by omega))
  have E1 := Lib.hid (M1.out.sv2 cn hc0 (by omega))
  have E2 := Lib.hid (M2.out.sv2 c1 (by omega) (by omega))
  have E3 := Lib.hid (M3.out.sv2 c2 (by omega) (by omega))
  have HC1 := Lib.hid hc1
  have HC2 := Lib.hid hc2
  clear hc1 hc2
  have kS_0 : xw.cell? ⟨s_, 0, none⟩ = some (.int .i64 cn) := BS.out.cell 0
  have kS_1 : xw.cell? ⟨s_, 1, none⟩ = some (.int .i64 at_) := BS.out.cell 1
  have kS_2 : xw.cell? ⟨s_, 2, none⟩ = some (.int .i64 lo) := BS.out.cell 2
  have kS_3 : xw.cell? ⟨s_, 3, none⟩ = some (.int .i64 hi) := BS.out.cell 3
  have kS_4 : xw.cell? ⟨s_, 4, none⟩ = some (.int .i64 pp) := BS.out.cell 4
  have kS_5 : xw.cell? ⟨s_, 5, none⟩ = some (.int .i64 le) := BS.out.cell 5
  have kS_6 : xw.cell? ⟨s_, 6, none⟩ = some (.int .i64 re) := BS.out.cell 6
  go_wp2_with fail
  refine (save_ok cn at_ lo hi pp le re _ E1.out).mono ?_
  rintro e y12 ⟨A1, k1, rfl, hv, hb⟩
  clear kS_0 kS_1 kS_2 kS_3 kS_4 kS_5 kS_6
  have hbx : Below xw.heap.size xw y12 := below_via (by go_grown) hb (by first | (simp; done) | (simp; omega))
  have BS := Lib.hid (BS.out.stays hbx)
  have BU := Lib.hid (BU.out.stays hbx)
  have BV := Lib.hid (BV.out.stays hbx)
  have VA := Lib.hid hv
  have R13 := Lib.hid (RE.out.trans (hbx.mono hz_xw))
  have hz_y12 := R13.out.size
  clear hb hbx hv RE hz_xw
  have va1 := VA.out.le
  have va2 := VA.out.cap
  have kU_0 : y12.cell? ⟨u_, 0, none⟩ = some (.int .i64 c1) := BU.out.cell 0
  have kU_1 : y12.cell? ⟨u_, 1, none⟩ = some (.int .i64 at2) := BU.out.cell 1
  have kU_2 : y12.cell? ⟨u_, 2, none⟩ = some (.int .i64 lo2) := BU.out.cell 2
  have kU_3 : y12.cell? ⟨u_, 3, none⟩ = some (.int .i64 hi2) := BU.out.cell 3
  have kU_4 : y12.cell? ⟨u_, 4, none⟩ = some (.int .i64 pp2) := BU.out.cell 4
  have kU_5 : y12.cell? ⟨u_, 5, none⟩ = some (.int .i64 le2) := BU.out.cell 5
  have kU_6 : y12.cell? ⟨u_, 6, none⟩ = some (.int .i64 re2) := BU.out.cell 6
  go_wp2_with fail
  refine (save_ok c1 at2 lo2 hi2 pp2 le2 re2 _ E2.out).mono ?_
  rintro e y14 ⟨A2, k2, rfl, hv, hb⟩
  clear kU_0 kU_1 kU_2 kU_3 kU_4 kU_5 kU_6
  have hbx : Below y12.heap.size y12 y14 := below_via (by go_grown) hb (by first | (simp; done) | (simp; omega))
  have BS := Lib.hid (BS.out.stays hbx)
  have BU := Lib.hid (BU.out.stays hbx)
  have BV := Lib.hid (BV.out.stays hbx)
  have VA := Lib.hid (VA.out.stays hbx)
  have VB := Lib.hid hv
  have R15 := Lib.hid (R13.out.trans (hbx.mono hz_y12))
  have hz_y14 := R15.out.size
  clear hb hbx hv R13 hz_y12
  have vb1 := VB.out.le
  have vb2 := VB.out.cap
  have kV_0 : y14.cell? ⟨v_, 0, none⟩ = some (.int .i64 c2) := BV.out.cell 0
  have kV_1 : y14.cell? ⟨v_, 1, none⟩ = some (.int .i64 at3) := BV.out.cell 1
  have kV_2 : y14.cell? ⟨v_, 2, none⟩ = some (.int .i64 lo3) := BV.out.cell 2
  have kV_3 : y14.cell? ⟨v_, 3, none⟩ = some (.int .i64 hi3) := BV.out.cell 3
  have kV_4 : y14.cell? ⟨v_, 4, none⟩ = some (.int .i64 pp3) := BV.out.cell 4
  have kV_5 : y14.cell? ⟨v_, 5, none⟩ = some (.int .i64 le3) := BV.out.cell 5
  have kV_6 : y14.cell? ⟨v_, 6, none⟩ = some (.int .i64 re3) := BV.out.cell 6
  go_wp2_with fail
  refine (save_ok c2 at3 lo3 hi3 pp3 le3 re3 _ E3.out).mono ?_
  rintro e y16 ⟨A3, k3, rfl, hv, hb⟩
  clear kV_0 kV_1 kV_2 kV_3 kV_4 kV_5 kV_6
  have hbx : Below y14.heap.size y14 y16 := below_via (by go_grown) hb (by first | (simp; done) | (simp; omega))
  have BS := Lib.hid (BS.out.stays hbx)
  have BU := Lib.hid (BU.out.stays hbx)
  have BV := Lib.hid (BV.out.stays hbx)
  have VA := Lib.hid (VA.out.stays hbx)
  have VB := Lib.hid (VB.out.stays hbx)
  have VC := Lib.hid hv
  have R17 := Lib.hid (R15.out.trans (hbx.mono hz_y14))
  have hz_y16 := R17.out.size
  clear hb hbx hv R15 hz_y14
  have vc1 := VC.out.le
  have vc2 := VC.out.cap
  obtain ⟨la, hla⟩ : ∃ la, saveL [cn, at_, lo, hi, pp, le, re] = la := ⟨_, rfl⟩
  rw [hla] at G1 VA
  clear hla
  obtain ⟨lb, hlb⟩ : ∃ lb, saveL [c1, at2, lo2, hi2, pp2, le2, re2] = lb := ⟨_, rfl⟩
  rw [hlb] at G2 VB
  clear hlb
  obtain ⟨lc, hlc⟩ : ∃ lc, saveL [c2, at3, lo3, hi3, pp3, le3, re3] = lc := ⟨_, rfl⟩
  rw [hlc] at G3 VC
  clear hlc
  clear E1 E2 E3 M1 M2 M3
  go_wp2_with fail
  refine (within_any x 81 (by decide) (by decide) _).mono ?_
  rintro e q_ ⟨rfl, rfl⟩
  obtain ⟨m, hm⟩ : ∃ m : Nat, x % 81 = (m : Int) := Int.eq_ofNat_of_zero_le (Int.emod_nonneg _ (by decide))
  have hm81 : m < 81 := by omega
  rw [hm]
  clear hm
  have mi0 : (0 : Int) ≤ (m : Int) := by omega
  have mi1 : (m : Int) ≤ (k3 : Int) := by omega
  have mi2 : (m : Int) ≤ 80 := by omega
  have s1 := run_cutFrom und_bytes size_byte (A := A1) (n := 80) (c := k1) m m (80 - m) (k1 - m) rfl (by omega) rfl rfl
  go_upto_region 10 with fail
  have kS_0 : y16.cell? ⟨s_, 0, none⟩ = some (.int .i64 cn) := BS.out.cell 0
  have HC := Lib.hid (VC.out.cutTo m (by omega))
  have HA := Lib.hid (VA.out.cutFrom m (by omega) (d := 80 - m) (k := k1 - m) rfl rfl)
  go_region_held3 (fun w' => w'.cell? ⟨s_, 0, none⟩ = some (.int .i64 cn)) (go_keep)
    (first
      | (go_at_call 29; have hL := lists_made2 (E := 28) HC.out HA.out; (first | (with_reducible refine (refJoin_any _ _ _ [lc.take m, la.drop m] _ hL 80 (by rw [List.flatten_cons, List.flatten_cons, List.flatten_nil, List.append_nil, List.length_append, HC.out.len, HA.out.len]; omega) (by decide)).mono ?_) | (with_reducible refine (refJoin_any _ _ _ [lc.take m, la.drop m] _ (hL.stays ((Below.refl _ _).drew)) 80 (by rw [List.flatten_cons, List.flatten_cons, List.flatten_nil, List.append_nil, List.length_append, HC.out.len, HA.out.len]; omega) (by decide)).mono ?_)); rintro e wq ⟨Aq, kq, rfl, hq, hb⟩; have qq : Below y16.heap.size y16 wq := below_via (by go_grown) hb (by first | (simp; done) | (simp; omega)); have z0 : wq.cell? ⟨s_, 0, none⟩ = some (.int .i64 cn) := (BS.out.stays qq).cell 0))
  all_goals
    have BS := Lib.hid (BS.out.stays qq)
    have BU := Lib.hid (BU.out.stays qq)
    have BV := Lib.hid (BV.out.stays qq)
    have VA := Lib.hid (VA.out.stays qq)
    have VB := Lib.hid (VB.out.stays qq)
    have VC := Lib.hid (VC.out.stays qq)
    have VT := Lib.hid (show Bytes wq Aq 80 kq (lc.take m ++ la.drop m) from by have := own_rd hq; simpa [Bytes] using this)
    have vt1 := VT.out.le
    have vt2 := VT.out.cap
    have RQ := Lib.hid (R17.out.trans (qq.mono hz_y16))
    have hz_wq := RQ.out.size
    clear hq hb qq HC HA s1 R17 hz_y16
    generalize lc.take m ++ la.drop m = lt at *
    by_cases hw : lt = lc
    · have HW := Lib.hid hw
      clear hw
      have lbn0 : lvN lb 0 = c1 := by unfold lvN; rw [G2.out]; rfl
      have lbn1 : lvN lb 1 = at2 := by unfold lvN; rw [G2.out]; rfl
      have lbn2 : lvN lb 2 = lo2 := by unfold lvN; rw [G2.out]; rfl
      have lbn3 : lvN lb 3 = hi2 := by unfold lvN; rw [G2.out]; rfl
      have lbn4 : lvN lb 4 = pp2 := by unfold lvN; rw [G2.out]; rfl
      have lbn5 : lvN lb 5 = le2 := by unfold lvN; rw [G2.out]; rfl
      have lbn6 : lvN lb 6 = re2 := by unfold lvN; rw [G2.out]; rfl
      have lbe : lvE lb = 0 := by unfold lvE; rw [G2.out]
      have hnE : nvE lt lb = 0 := nvE_ok lt lb lbe
      have ltn0 : lvN lt 0 = c2 := by unfold lvN; rw [HW.out, G3.out]; rfl
      have ltn1 : lvN lt 1 = at3 := by unfold lvN; rw [HW.out, G3.out]; rfl
      have ltn2 : lvN lt 2 = lo3 := by unfold lvN; rw [HW.out, G3.out]; rfl
      have ltn3 : lvN lt 3 = hi3 := by unfold lvN; rw [HW.out, G3.out]; rfl
      have ltn4 : lvN lt 4 = pp3 := by unfold lvN; rw [HW.out, G3.out]; rfl
      have ltn5 : lvN lt 5 = le3 := by unfold lvN; rw [HW.out, G3.out]; rfl
      have ltn6 : lvN lt 6 = re3 := by unfold lvN; rw [HW.out, G3.out]; rfl
      have lte : lvE lt = 0 := by unfold lvE; rw [HW.out, G3.out]
      obtain ⟨e1, e2, e3⟩ := nv_x lt lb (by unfold nwK; rw [if_neg (fun g => g.2 lbe), if_neg (fun g => g.elim (fun q => q lte) (fun q => by have q2 := q.2; rw [ltn0, lbn0] at q2; have := HC1.out; have := HC2.out; omega))])
      have HV0 := Lib.hid (show nvN lt lb 0 = c2 from (e1 0).trans ltn0)
      have HV1 := Lib.hid (show nvN lt lb 1 = at3 from (e1 1).trans ltn1)
      have HV2 := Lib.hid (show nvN lt lb 2 = lo3 from (e1 2).trans ltn2)
      have HV3 := Lib.hid (show nvN lt lb 3 = hi3 from (e1 3).trans ltn3)
      have HV4 := Lib.hid (show nvN lt lb 4 = pp3 from (e1 4).trans ltn4)
      have HV5 := Lib.hid (show nvN lt lb 5 = le3 from (e1 5).trans ltn5)
      have HV6 := Lib.hid (show nvN lt lb 6 = re3 from (e1 6).trans ltn6)
      have HW2 := Lib.hid e2
      clear e1 e2 e3
      have HNE := Lib.hid hnE
      clear hnE
      clear lbe lbn0 lbn1 lbn2 lbn3 lbn4 lbn5 lbn6 lte ltn0 ltn1 ltn2 ltn3 ltn4 ltn5 ltn6
      go_wp2_with fail
      refine (new_any Aq 80 kq lt A2 80 k2 lb _ VT.out VB.out).mono ?_
      rintro e y18 ⟨rfl, hb⟩
      have hbx : Below wq.heap.size wq y18 := below_via (by go_grown) hb (by first | (simp; done) | (simp; omega))
      have BS := Lib.hid (BS.out.stays hbx)
      have BU := Lib.hid (BU.out.stays hbx)
      have BV := Lib.hid (BV.out.stays hbx)
      have VA := Lib.hid (VA.out.stays hbx)
      have VB := Lib.hid (VB.out.stays hbx)
      have VC := Lib.hid (VC.out.stays hbx)
      have VT := Lib.hid (VT.out.stays hbx)
      have R19 := Lib.hid (RQ.out.trans (hbx.mono hz_wq))
      have hz_y18 := R19.out.size
      clear hb hbx  RQ hz_wq
      rw [HV0.out, HV1.out, HV2.out, HV3.out, HV4.out, HV5.out, HV6.out, HW2.out, HNE.out]
      go_upto_region 12 with fail
      obtain ⟨x20, x_, ex20, ex_⟩ : ∃ x20 x_, x20 = y18.alloc (.cells #[.int .i64 c2, .int .i64 at3, .int .i64 lo3, .int .i64 hi3, .int .i64 pp3, .int .i64 le3, .int .i64 re3] 41) ∧ x_ = y18.heap.size := ⟨_, _, rfl, rfl⟩
      rw [← ex20, ← ex_]
      have hbx : Below y18.heap.size y18 x20 := by rw [ex20]; exact below_alloc1 _ _ 
      have o_S_X : s_ < x_ := by rw [ex_]; exact BS.out.lt
      have o_U_X : u_ < x_ := by rw [ex_]; exact BU.out.lt
      have o_V_X : v_ < x_ := by rw [ex_]; exact BV.out.lt
      have g_X : w.heap.size ≤ x_ := by rw [ex_]; exact hz_y18
      have BS := Lib.hid (BS.out.stays hbx)
      have BU := Lib.hid (BU.out.stays hbx)
      have BV := Lib.hid (BV.out.stays hbx)
      have VA := Lib.hid (VA.out.stays hbx)
      have VB := Lib.hid (VB.out.stays hbx)
      have VC := Lib.hid (VC.out.stays hbx)
      have VT := Lib.hid (VT.out.stays hbx)
      have BX := Lib.hid (show Blk x20 x_ 41 #[.int .i64 c2, .int .i64 at3, .int .i64 lo3, .int .i64 hi3, .int .i64 pp3, .int .i64 le3, .int .i64 re3] by rw [ex20, ex_]; exact blk_new1_0 _ _ _ )
      have R21 := Lib.hid (R19.out.trans (hbx.mono hz_y18))
      have hz_x20 := R21.out.size
      clear hbx ex20 ex_ R19 hz_y18
      go_wp2_with fail
      refine (refSame_true VT.out VC.out HW.out).mono ?_
      rintro e q_ ⟨rfl, rfl⟩
      go_wp2_with fail
      refine (psKnown _).mono ?_
      rintro e y22 ⟨rfl, hb⟩
      have hbx : Below x20.heap.size x20 y22 := below_via (by go_grown) hb (by first | (simp; done) | (simp; omega))
      have BS := Lib.hid (BS.out.stays hbx)
      have BU := Lib.hid (BU.out.stays hbx)
      have BV := Lib.hid (BV.out.stays hbx)
      have BX := Lib.hid (BX.out.stays hbx)
      have VA := Lib.hid (VA.out.stays hbx)
      have VB := Lib.hid (VB.out.stays hbx)
      have VC := Lib.hid (VC.out.stays hbx)
      have VT := Lib.hid (VT.out.stays hbx)
      have R23 := Lib.hid (R21.out.trans (hbx.mono hz_x20))
      have hz_y22 := R23.out.size
      clear hb hbx  R21 hz_x20
      have kX_0 : y22.cell? ⟨x_, 0, none⟩ = some (.int .i64 c2) := BX.out.cell 0
      have kX_1 : y22.cell? ⟨x_, 1, none⟩ = some (.int .i64 at3) := BX.out.cell 1
      have kX_2 : y22.cell? ⟨x_, 2, none⟩ = some (.int .i64 lo3) := BX.out.cell 2
      have kX_3 : y22.cell? ⟨x_, 3, none⟩ = some (.int .i64 hi3) := BX.out.cell 3
      have kX_4 : y22.cell? ⟨x_, 4, none⟩ = some (.int .i64 pp3) := BX.out.cell 4
      have kX_5 : y22.cell? ⟨x_, 5, none⟩ = some (.int .i64 le3) := BX.out.cell 5
      have kX_6 : y22.cell? ⟨x_, 6, none⟩ = some (.int .i64 re3) := BX.out.cell 6
      have kV_0 : y22.cell? ⟨v_, 0, none⟩ = some (.int .i64 c2) := BV.out.cell 0
      have kV_1 : y22.cell? ⟨v_, 1, none⟩ = some (.int .i64 at3) := BV.out.cell 1
      have kV_2 : y22.cell? ⟨v_, 2, none⟩ = some (.int .i64 lo3) := BV.out.cell 2
      have kV_3 : y22.cell? ⟨v_, 3, none⟩ = some (.int .i64 hi3) := BV.out.cell 3
      have kV_4 : y22.cell? ⟨v_, 4, none⟩ = some (.int .i64 pp3) := BV.out.cell 4
      have kV_5 : y22.cell? ⟨v_, 5, none⟩ = some (.int .i64 le3) := BV.out.cell 5
      have kV_6 : y22.cell? ⟨v_, 6, none⟩ = some (.int .i64 re3) := BV.out.cell 6
      go_wp2
      go_ret
      exact ⟨rfl, R23.out⟩
    · have HN := Lib.hid hw
      clear hw
      by_cases hw : lt = la
      · have HW := Lib.hid hw
        clear hw
        have lbn0 : lvN lb 0 = c1 := by unfold lvN; rw [G2.out]; rfl
        have lbn1 : lvN lb 1 = at2 := by unfold lvN; rw [G2.out]; rfl
        have lbn2 : lvN lb 2 = lo2 := by unfold lvN; rw [G2.out]; rfl
        have lbn3 : lvN lb 3 = hi2 := by unfold lvN; rw [G2.out]; rfl
        have lbn4 : lvN lb 4 = pp2 := by unfold lvN; rw [G2.out]; rfl
        have lbn5 : lvN lb 5 = le2 := by unfold lvN; rw [G2.out]; rfl
        have lbn6 : lvN lb 6 = re2 := by unfold lvN; rw [G2.out]; rfl
        have lbe : lvE lb = 0 := by unfold lvE; rw [G2.out]
        have hnE : nvE lt lb = 0 := nvE_ok lt lb lbe
        have ltn0 : lvN lt 0 = cn := by unfold lvN; rw [HW.out, G1.out]; rfl
        have ltn1 : lvN lt 1 = at_ := by unfold lvN; rw [HW.out, G1.out]; rfl
        have ltn2 : lvN lt 2 = lo := by unfold lvN; rw [HW.out, G1.out]; rfl
        have ltn3 : lvN lt 3 = hi := by unfold lvN; rw [HW.out, G1.out]; rfl
        have ltn4 : lvN lt 4 = pp := by unfold lvN; rw [HW.out, G1.out]; rfl
        have ltn5 : lvN lt 5 = le := by unfold lvN; rw [HW.out, G1.out]; rfl
        have ltn6 : lvN lt 6 = re := by unfold lvN; rw [HW.out, G1.out]; rfl
        have lte : lvE lt = 0 := by unfold lvE; rw [HW.out, G1.out]
        obtain ⟨e1, e2, e3⟩ := nv_y lt lb (by unfold nwK; rw [if_neg (fun g => g.2 lbe), if_pos (.inr ⟨lbe, by rw [ltn0, lbn0]; have := HC1.out; omega⟩)])
        have HV0 := Lib.hid (show nvN lt lb 0 = c1 from (e1 0).trans lbn0)
        have HV1 := Lib.hid (show nvN lt lb 1 = at2 from (e1 1).trans lbn1)
        have HV2 := Lib.hid (show nvN lt lb 2 = lo2 from (e1 2).trans lbn2)
        have HV3 := Lib.hid (show nvN lt lb 3 = hi2 from (e1 3).trans lbn3)
        have HV4 := Lib.hid (show nvN lt lb 4 = pp2 from (e1 4).trans lbn4)
        have HV5 := Lib.hid (show nvN lt lb 5 = le2 from (e1 5).trans lbn5)
        have HV6 := Lib.hid (show nvN lt lb 6 = re2 from (e1 6).trans lbn6)
        have HW2 := Lib.hid e2
        clear e1 e2 e3
        have HNE := Lib.hid hnE
        clear hnE
        clear lbe lbn0 lbn1 lbn2 lbn3 lbn4 lbn5 lbn6 lte ltn0 ltn1 ltn2 ltn3 ltn4 ltn5 ltn6
        go_wp2_with fail
        refine (new_any Aq 80 kq lt A2 80 k2 lb _ VT.out VB.out).mono ?_
        rintro e y18 ⟨rfl, hb⟩
        have hbx : Below wq.heap.size wq y18 := below_via (by go_grown) hb (by first | (simp; done) | (simp; omega))
        have BS := Lib.hid (BS.out.stays hbx)
        have BU := Lib.hid (BU.out.stays hbx)
        have BV := Lib.hid (BV.out.stays hbx)
        have VA := Lib.hid (VA.out.stays hbx)
        have VB := Lib.hid (VB.out.stays hbx)
        have VC := Lib.hid (VC.out.stays hbx)
        have VT := Lib.hid (VT.out.stays hbx)
        have R19 := Lib.hid (RQ.out.trans (hbx.mono hz_wq))
        have hz_y18 := R19.out.size
        clear hb hbx  RQ hz_wq
        rw [HV0.out, HV1.out, HV2.out, HV3.out, HV4.out, HV5.out, HV6.out, HW2.out, HNE.out]
        go_upto_region 12 with fail
        obtain ⟨x20, x_, ex20, ex_⟩ : ∃ x20 x_, x20 = y18.alloc (.cells #[.int .i64 c1, .int .i64 at2, .int .i64 lo2, .int .i64 hi2, .int .i64 pp2, .int .i64 le2, .int .i64 re2] 41) ∧ x_ = y18.heap.size := ⟨_, _, rfl, rfl⟩
        rw [← ex20, ← ex_]
        have hbx : Below y18.heap.size y18 x20 := by rw [ex20]; exact below_alloc1 _ _ 
        have o_S_X : s_ < x_ := by rw [ex_]; exact BS.out.lt
        have o_U_X : u_ < x_ := by rw [ex_]; exact BU.out.lt
        have o_V_X : v_ < x_ := by rw [ex_]; exact BV.out.lt
        have g_X : w.heap.size ≤ x_ := by rw [ex_]; exact hz_y18
        have BS := Lib.hid (BS.out.stays hbx)
        have BU := Lib.hid (BU.out.stays hbx)
        have BV := Lib.hid (BV.out.stays hbx)
        have VA := Lib.hid (VA.out.stays hbx)
        have VB := Lib.hid (VB.out.stays hbx)
        have VC := Lib.hid (VC.out.stays hbx)
        have VT := Lib.hid (VT.out.stays hbx)
        have BX := Lib.hid (show Blk x20 x_ 41 #[.int .i64 c1, .int .i64 at2, .int .i64 lo2, .int .i64 hi2, .int .i64 pp2, .int .i64 le2, .int .i64 re2] by rw [ex20, ex_]; exact blk_new1_0 _ _ _ )
        have R21 := Lib.hid (R19.out.trans (hbx.mono hz_y18))
        have hz_x20 := R21.out.size
        clear hbx ex20 ex_ R19 hz_y18
        go_wp2_with fail
        refine (refSame_false VT.out VC.out HN.out).mono ?_
        rintro e q_ ⟨rfl, rfl⟩
        go_wp2_with fail
        refine (refSame_true VT.out VA.out HW.out).mono ?_
        rintro e q_ ⟨rfl, rfl⟩
        go_wp2_with fail
        refine (psKnown _).mono ?_
        rintro e y22 ⟨rfl, hb⟩
        have hbx : Below x20.heap.size x20 y22 := below_via (by go_grown) hb (by first | (simp; done) | (simp; omega))
        have BS := Lib.hid (BS.out.stays hbx)
        have BU := Lib.hid (BU.out.stays hbx)
        have BV := Lib.hid (BV.out.stays hbx)
        have BX := Lib.hid (BX.out.stays hbx)
        have VA := Lib.hid (VA.out.stays hbx)
        have VB := Lib.hid (VB.out.stays hbx)
        have VC := Lib.hid (VC.out.stays hbx)
        have VT := Lib.hid (VT.out.stays hbx)
        have R23 := Lib.hid (R21.out.trans (hbx.mono hz_x20))
        have hz_y22 := R23.out.size
        clear hb hbx  R21 hz_x20
        have kX_0 : y22.cell? ⟨x_, 0, none⟩ = some (.int .i64 c1) := BX.out.cell 0
        have kX_1 : y22.cell? ⟨x_, 1, none⟩ = some (.int .i64 at2) := BX.out.cell 1
        have kX_2 : y22.cell? ⟨x_, 2, none⟩ = some (.int .i64 lo2) := BX.out.cell 2
        have kX_3 : y22.cell? ⟨x_, 3, none⟩ = some (.int .i64 hi2) := BX.out.cell 3
        have kX_4 : y22.cell? ⟨x_, 4, none⟩ = some (.int .i64 pp2) := BX.out.cell 4
        have kX_5 : y22.cell? ⟨x_, 5, none⟩ = some (.int .i64 le2) := BX.out.cell 5
        have kX_6 : y22.cell? ⟨x_, 6, none⟩ = some (.int .i64 re2) := BX.out.cell 6
        have kU_0 : y22.cell? ⟨u_, 0, none⟩ = some (.int .i64 c1) := BU.out.cell 0
        have kU_1 : y22.cell? ⟨u_, 1, none⟩ = some (.int .i64 at2) := BU.out.cell 1
        have kU_2 : y22.cell? ⟨u_, 2, none⟩ = some (.int .i64 lo2) := BU.out.cell 2
        have kU_3 : y22.cell? ⟨u_, 3, none⟩ = some (.int .i64 hi2) := BU.out.cell 3
        have kU_4 : y22.cell? ⟨u_, 4, none⟩ = some (.int .i64 pp2) := BU.out.cell 4
        have kU_5 : y22.cell? ⟨u_, 5, none⟩ = some (.int .i64 le2) := BU.out.cell 5
        have kU_6 : y22.cell? ⟨u_, 6, none⟩ = some (.int .i64 re2) := BU.out.cell 6
        go_wp2
        go_ret
        exact ⟨rfl, R23.out⟩
      · have HN2 := Lib.hid hw
        clear hw
        by_cases he : lvE lt = 0
        · have HE := Lib.hid he
          clear he
          have lbn0 : lvN lb 0 = c1 := by unfold lvN; rw [G2.out]; rfl
          have lbn1 : lvN lb 1 = at2 := by unfold lvN; rw [G2.out]; rfl
          have lbn2 : lvN lb 2 = lo2 := by unfold lvN; rw [G2.out]; rfl
          have lbn3 : lvN lb 3 = hi2 := by unfold lvN; rw [G2.out]; rfl
          have lbn4 : lvN lb 4 = pp2 := by unfold lvN; rw [G2.out]; rfl
          have lbn5 : lvN lb 5 = le2 := by unfold lvN; rw [G2.out]; rfl
          have lbn6 : lvN lb 6 = re2 := by unfold lvN; rw [G2.out]; rfl
          have lbe : lvE lb = 0 := by unfold lvE; rw [G2.out]
          have hnE : nvE lt lb = 0 := nvE_ok lt lb lbe
          have HNE := Lib.hid hnE
          clear hnE
          clear lbe lbn0 lbn1 lbn2 lbn3 lbn4 lbn5 lbn6
          go_wp2_with fail
          refine (new_any Aq 80 kq lt A2 80 k2 lb _ VT.out VB.out).mono ?_
          rintro e y18 ⟨rfl, hb⟩
          have hbx : Below wq.heap.size wq y18 := below_via (by go_grown) hb (by first | (simp; done) | (simp; omega))
          have BS := Lib.hid (BS.out.stays hbx)
          have BU := Lib.hid (BU.out.stays hbx)
          have BV := Lib.hid (BV.out.stays hbx)
          have VA := Lib.hid (VA.out.stays hbx)
          have VB := Lib.hid (VB.out.stays hbx)
          have VC := Lib.hid (VC.out.stays hbx)
          have VT := Lib.hid (VT.out.stays hbx)
          have R19 := Lib.hid (RQ.out.trans (hbx.mono hz_wq))
          have hz_y18 := R19.out.size
          clear hb hbx  RQ hz_wq
          rw [HNE.out]
          generalize nvN lt lb 0 = p0
          generalize nvN lt lb 1 = p1
          generalize nvN lt lb 2 = p2
          generalize nvN lt lb 3 = p3
          generalize nvN lt lb 4 = p4
          generalize nvN lt lb 5 = p5
          generalize nvN lt lb 6 = p6
          generalize nvW lt lb = pw
          go_upto_region 12 with fail
          obtain ⟨x20, x_, ex20, ex_⟩ : ∃ x20 x_, x20 = y18.alloc (.cells #[.int .i64 p0, .int .i64 p1, .int .i64 p2, .int .i64 p3, .int .i64 p4, .int .i64 p5, .int .i64 p6] 41) ∧ x_ = y18.heap.size := ⟨_, _, rfl, rfl⟩
          rw [← ex20, ← ex_]
          have hbx : Below y18.heap.size y18 x20 := by rw [ex20]; exact below_alloc1 _ _ 
          have o_S_X : s_ < x_ := by rw [ex_]; exact BS.out.lt
          have o_U_X : u_ < x_ := by rw [ex_]; exact BU.out.lt
          have o_V_X : v_ < x_ := by rw [ex_]; exact BV.out.lt
          have g_X : w.heap.size ≤ x_ := by rw [ex_]; exact hz_y18
          have BS := Lib.hid (BS.out.stays hbx)
          have BU := Lib.hid (BU.out.stays hbx)
          have BV := Lib.hid (BV.out.stays hbx)
          have VA := Lib.hid (VA.out.stays hbx)
          have VB := Lib.hid (VB.out.stays hbx)
          have VC := Lib.hid (VC.out.stays hbx)
          have VT := Lib.hid (VT.out.stays hbx)
          have BX := Lib.hid (show Blk x20 x_ 41 #[.int .i64 p0, .int .i64 p1, .int .i64 p2, .int .i64 p3, .int .i64 p4, .int .i64 p5, .int .i64 p6] by rw [ex20, ex_]; exact blk_new1_0 _ _ _ )
          have R21 := Lib.hid (R19.out.trans (hbx.mono hz_y18))
          have hz_x20 := R21.out.size
          clear hbx ex20 ex_ R19 hz_y18
          go_wp2_with fail
          refine (refSame_false VT.out VC.out HN.out).mono ?_
          rintro e q_ ⟨rfl, rfl⟩
          go_wp2_with fail
          refine (refSame_false VT.out VA.out HN2.out).mono ?_
          rintro e q_ ⟨rfl, rfl⟩
          go_wp2_with fail
          refine (refLoad_any _ _ _ lt _ VT.out).mono ?_
          rintro e y22 ⟨rfl, hb⟩
          have hbx : Below x20.heap.size x20 y22 := below_via (by go_grown) hb (by first | (simp; done) | (simp; omega))
          have BS := Lib.hid (BS.out.stays hbx)
          have BU := Lib.hid (BU.out.stays hbx)
          have BV := Lib.hid (BV.out.stays hbx)
          have BX := Lib.hid (BX.out.stays hbx)
          have VA := Lib.hid (VA.out.stays hbx)
          have VB := Lib.hid (VB.out.stays hbx)
          have VC := Lib.hid (VC.out.stays hbx)
          have VT := Lib.hid (VT.out.stays hbx)
          have R23 := Lib.hid (R21.out.trans (hbx.mono hz_x20))
          have hz_y22 := R23.out.size
          clear hb hbx  R21 hz_x20
          rw [HE.out]
          go_upto_region 19 with fail
          obtain ⟨x24, q_, ex24, eq_⟩ : ∃ x24 q_, x24 = y22.alloc (.cells #[.int .i64 (lvN lt 0), .int .i64 (lvN lt 1), .int .i64 (lvN lt 2), .int .i64 (lvN lt 3), .int .i64 (lvN lt 4), .int .i64 (lvN lt 5), .int .i64 (lvN lt 6)] 41) ∧ q_ = y22.heap.size := ⟨_, _, rfl, rfl⟩
          rw [← ex24, ← eq_]
          have hbx : Below y22.heap.size y22 x24 := by rw [ex24]; exact below_alloc1 _ _ 
          have o_S_Q : s_ < q_ := by rw [eq_]; exact BS.out.lt
          have o_U_Q : u_ < q_ := by rw [eq_]; exact BU.out.lt
          have o_V_Q : v_ < q_ := by rw [eq_]; exact BV.out.lt
          have o_X_Q : x_ < q_ := by rw [eq_]; exact BX.out.lt
          have g_Q : w.heap.size ≤ q_ := by rw [eq_]; exact hz_y22
          have BS := Lib.hid (BS.out.stays hbx)
          have BU := Lib.hid (BU.out.stays hbx)
          have BV := Lib.hid (BV.out.stays hbx)
          have BX := Lib.hid (BX.out.stays hbx)
          have VA := Lib.hid (VA.out.stays hbx)
          have VB := Lib.hid (VB.out.stays hbx)
          have VC := Lib.hid (VC.out.stays hbx)
          have VT := Lib.hid (VT.out.stays hbx)
          have BQ := Lib.hid (show Blk x24 q_ 41 #[.int .i64 (lvN lt 0), .int .i64 (lvN lt 1), .int .i64 (lvN lt 2), .int .i64 (lvN lt 3), .int .i64 (lvN lt 4), .int .i64 (lvN lt 5), .int .i64 (lvN lt 6)] by rw [ex24, eq_]; exact blk_new1_0 _ _ _ )
          have R25 := Lib.hid (R23.out.trans (hbx.mono hz_y22))
          have hz_x24 := R25.out.size
          clear hbx ex24 eq_ R23 hz_y22
          go_wp2_with fail
          refine (psKnown _).mono ?_
          rintro e y26 ⟨rfl, hb⟩
          have hbx : Below x24.heap.size x24 y26 := below_via (by go_grown) hb (by first | (simp; done) | (simp; omega))
          have BS := Lib.hid (BS.out.stays hbx)
          have BU := Lib.hid (BU.out.stays hbx)
          have BV := Lib.hid (BV.out.stays hbx)
          have BX := Lib.hid (BX.out.stays hbx)
          have BQ := Lib.hid (BQ.out.stays hbx)
          have VA := Lib.hid (VA.out.stays hbx)
          have VB := Lib.hid (VB.out.stays hbx)
          have VC := Lib.hid (VC.out.stays hbx)
          have VT := Lib.hid (VT.out.stays hbx)
          have R27 := Lib.hid (R25.out.trans (hbx.mono hz_x24))
          have hz_y26 := R27.out.size
          clear hb hbx  R25 hz_x24
          have kX_0 : y26.cell? ⟨x_, 0, none⟩ = some (.int .i64 p0) := BX.out.cell 0
          have kX_1 : y26.cell? ⟨x_, 1, none⟩ = some (.int .i64 p1) := BX.out.cell 1
          have kX_2 : y26.cell? ⟨x_, 2, none⟩ = some (.int .i64 p2) := BX.out.cell 2
          have kX_3 : y26.cell? ⟨x_, 3, none⟩ = some (.int .i64 p3) := BX.out.cell 3
          have kX_4 : y26.cell? ⟨x_, 4, none⟩ = some (.int .i64 p4) := BX.out.cell 4
          have kX_5 : y26.cell? ⟨x_, 5, none⟩ = some (.int .i64 p5) := BX.out.cell 5
          have kX_6 : y26.cell? ⟨x_, 6, none⟩ = some (.int .i64 p6) := BX.out.cell 6
          have kU_0 : y26.cell? ⟨u_, 0, none⟩ = some (.int .i64 c1) := BU.out.cell 0
          have kU_1 : y26.cell? ⟨u_, 1, none⟩ = some (.int .i64 at2) := BU.out.cell 1
          have kU_2 : y26.cell? ⟨u_, 2, none⟩ = some (.int .i64 lo2) := BU.out.cell 2
          have kU_3 : y26.cell? ⟨u_, 3, none⟩ = some (.int .i64 hi2) := BU.out.cell 3
          have kU_4 : y26.cell? ⟨u_, 4, none⟩ = some (.int .i64 pp2) := BU.out.cell 4
          have kU_5 : y26.cell? ⟨u_, 5, none⟩ = some (.int .i64 le2) := BU.out.cell 5
          have kU_6 : y26.cell? ⟨u_, 6, none⟩ = some (.int .i64 re2) := BU.out.cell 6
          go_wp2
          go_ret
          exact ⟨rfl, R27.out⟩
        · have HE := Lib.hid he
          clear he
          have lbn0 : lvN lb 0 = c1 := by unfold lvN; rw [G2.out]; rfl
          have lbn1 : lvN lb 1 = at2 := by unfold lvN; rw [G2.out]; rfl
          have lbn2 : lvN lb 2 = lo2 := by unfold lvN; rw [G2.out]; rfl
          have lbn3 : lvN lb 3 = hi2 := by unfold lvN; rw [G2.out]; rfl
          have lbn4 : lvN lb 4 = pp2 := by unfold lvN; rw [G2.out]; rfl
          have lbn5 : lvN lb 5 = le2 := by unfold lvN; rw [G2.out]; rfl
          have lbn6 : lvN lb 6 = re2 := by unfold lvN; rw [G2.out]; rfl
          have lbe : lvE lb = 0 := by unfold lvE; rw [G2.out]
          have hnE : nvE lt lb = 0 := nvE_ok lt lb lbe
          obtain ⟨e1, e2, e3⟩ := nv_y lt lb (by unfold nwK; rw [if_neg (fun g => g.2 lbe), if_pos (.inl HE.out)])
          have HV0 := Lib.hid (show nvN lt lb 0 = c1 from (e1 0).trans lbn0)
          have HV1 := Lib.hid (show nvN lt lb 1 = at2 from (e1 1).trans lbn1)
          have HV2 := Lib.hid (show nvN lt lb 2 = lo2 from (e1 2).trans lbn2)
          have HV3 := Lib.hid (show nvN lt lb 3 = hi2 from (e1 3).trans lbn3)
          have HV4 := Lib.hid (show nvN lt lb 4 = pp2 from (e1 4).trans lbn4)
          have HV5 := Lib.hid (show nvN lt lb 5 = le2 from (e1 5).trans lbn5)
          have HV6 := Lib.hid (show nvN lt lb 6 = re2 from (e1 6).trans lbn6)
          have HW2 := Lib.hid e2
          clear e1 e2 e3
          have HNE := Lib.hid hnE
          clear hnE
          clear lbe lbn0 lbn1 lbn2 lbn3 lbn4 lbn5 lbn6
          go_wp2_with fail
          refine (new_any Aq 80 kq lt A2 80 k2 lb _ VT.out VB.out).mono ?_
          rintro e y18 ⟨rfl, hb⟩
          have hbx : Below wq.heap.size wq y18 := below_via (by go_grown) hb (by first | (simp; done) | (simp; omega))
          have BS := Lib.hid (BS.out.stays hbx)
          have BU := Lib.hid (BU.out.stays hbx)
          have BV := Lib.hid (BV.out.stays hbx)
          have VA := Lib.hid (VA.out.stays hbx)
          have VB := Lib.hid (VB.out.stays hbx)
          have VC := Lib.hid (VC.out.stays hbx)
          have VT := Lib.hid (VT.out.stays hbx)
          have R19 := Lib.hid (RQ.out.trans (hbx.mono hz_wq))
          have hz_y18 := R19.out.size
          clear hb hbx  RQ hz_wq
          rw [HV0.out, HV1.out, HV2.out, HV3.out, HV4.out, HV5.out, HV6.out, HW2.out, HNE.out]
          go_upto_region 12 with fail
          obtain ⟨x20, x_, ex20, ex_⟩ : ∃ x20 x_, x20 = y18.alloc (.cells #[.int .i64 c1, .int .i64 at2, .int .i64 lo2, .int .i64 hi2, .int .i64 pp2, .int .i64 le2, .int .i64 re2] 41) ∧ x_ = y18.heap.size := ⟨_, _, rfl, rfl⟩
          rw [← ex20, ← ex_]
          have hbx : Below y18.heap.size y18 x20 := by rw [ex20]; exact below_alloc1 _ _ 
          have o_S_X : s_ < x_ := by rw [ex_]; exact BS.out.lt
          have o_U_X : u_ < x_ := by rw [ex_]; exact BU.out.lt
          have o_V_X : v_ < x_ := by rw [ex_]; exact BV.out.lt
          have g_X : w.heap.size ≤ x_ := by rw [ex_]; exact hz_y18
          have BS := Lib.hid (BS.out.stays hbx)
          have BU := Lib.hid (BU.out.stays hbx)
          have BV := Lib.hid (BV.out.stays hbx)
          have VA := Lib.hid (VA.out.stays hbx)
          have VB := Lib.hid (VB.out.stays hbx)
          have VC := Lib.hid (VC.out.stays hbx)
          have VT := Lib.hid (VT.out.stays hbx)
          have BX := Lib.hid (show Blk x20 x_ 41 #[.int .i64 c1, .int .i64 at2, .int .i64 lo2, .int .i64 hi2, .int .i64 pp2, .int .i64 le2, .int .i64 re2] by rw [ex20, ex_]; exact blk_new1_0 _ _ _ )
          have R21 := Lib.hid (R19.out.trans (hbx.mono hz_y18))
          have hz_x20 := R21.out.size
          clear hbx ex20 ex_ R19 hz_y18
          go_wp2_with fail
          refine (refSame_false VT.out VC.out HN.out).mono ?_
          rintro e q_ ⟨rfl, rfl⟩
          go_wp2_with fail
          refine (refSame_false VT.out VA.out HN2.out).mono ?_
          rintro e q_ ⟨rfl, rfl⟩
          go_wp2_with fail
          refine (refLoad_any _ _ _ lt _ VT.out).mono ?_
          rintro e y22 ⟨rfl, hb⟩
          have hbx : Below x20.heap.size x20 y22 := below_via (by go_grown) hb (by first | (simp; done) | (simp; omega))
          have BS := Lib.hid (BS.out.stays hbx)
          have BU := Lib.hid (BU.out.stays hbx)
          have BV := Lib.hid (BV.out.stays hbx)
          have BX := Lib.hid (BX.out.stays hbx)
          have VA := Lib.hid (VA.out.stays hbx)
          have VB := Lib.hid (VB.out.stays hbx)
          have VC := Lib.hid (VC.out.stays hbx)
          have VT := Lib.hid (VT.out.stays hbx)
          have R23 := Lib.hid (R21.out.trans (hbx.mono hz_x20))
          have hz_y22 := R23.out.size
          clear hb hbx  R21 hz_x20
          obtain ⟨er, her⟩ : ∃ er, lvE lt = er := ⟨_, rfl⟩
          have hne : (er == 0) = false := by rw [← her]; simpa using HE.out
          rw [her]
          clear her
          go_upto_region 19 with fail
          obtain ⟨x24, q_, ex24, eq_⟩ : ∃ x24 q_, x24 = y22.alloc (.cells #[.int .i64 (lvN lt 0), .int .i64 (lvN lt 1), .int .i64 (lvN lt 2), .int .i64 (lvN lt 3), .int .i64 (lvN lt 4), .int .i64 (lvN lt 5), .int .i64 (lvN lt 6)] 41) ∧ q_ = y22.heap.size := ⟨_, _, rfl, rfl⟩
          rw [← ex24, ← eq_]
          have hbx : Below y22.heap.size y22 x24 := by rw [ex24]; exact below_alloc1 _ _ 
          have o_S_Q : s_ < q_ := by rw [eq_]; exact BS.out.lt
          have o_U_Q : u_ < q_ := by rw [eq_]; exact BU.out.lt
          have o_V_Q : v_ < q_ := by rw [eq_]; exact BV.out.lt
          have o_X_Q : x_ < q_ := by rw [eq_]; exact BX.out.lt
          have g_Q : w.heap.size ≤ q_ := by rw [eq_]; exact hz_y22
          have BS := Lib.hid (BS.out.stays hbx)
          have BU := Lib.hid (BU.out.stays hbx)
          have BV := Lib.hid (BV.out.stays hbx)
          have BX := Lib.hid (BX.out.stays hbx)
          have VA := Lib.hid (VA.out.stays hbx)
          have VB := Lib.hid (VB.out.stays hbx)
          have VC := Lib.hid (VC.out.stays hbx)
          have VT := Lib.hid (VT.out.stays hbx)
          have BQ := Lib.hid (show Blk x24 q_ 41 #[.int .i64 (lvN lt 0), .int .i64 (lvN lt 1), .int .i64 (lvN lt 2), .int .i64 (lvN lt 3), .int .i64 (lvN lt 4), .int .i64 (lvN lt 5), .int .i64 (lvN lt 6)] by rw [ex24, eq_]; exact blk_new1_0 _ _ _ )
          have R25 := Lib.hid (R23.out.trans (hbx.mono hz_y22))
          have hz_x24 := R25.out.size
          clear hbx ex24 eq_ R23 hz_y22
          go_wp2_with fail
          refine (psKnown _).mono ?_
          rintro e y26 ⟨rfl, hb⟩
          have hbx : Below x24.heap.size x24 y26 := below_via (by go_grown) hb (by first | (simp; done) | (simp; omega))
          have BS := Lib.hid (BS.out.stays hbx)
          have BU := Lib.hid (BU.out.stays hbx)
          have BV := Lib.hid (BV.out.stays hbx)
          have BX := Lib.hid (BX.out.stays hbx)
          have BQ := Lib.hid (BQ.out.stays hbx)
          have VA := Lib.hid (VA.out.stays hbx)
          have VB := Lib.hid (VB.out.stays hbx)
          have VC := Lib.hid (VC.out.stays hbx)
          have VT := Lib.hid (VT.out.stays hbx)
          have R27 := Lib.hid (R25.out.trans (hbx.mono hz_x24))
          have hz_y26 := R27.out.size
          clear hb hbx  R25 hz_x24
          have kX_0 : y26.cell? ⟨x_, 0, none⟩ = some (.int .i64 c1) := BX.out.cell 0
          have kX_1 : y26.cell? ⟨x_, 1, none⟩ = some (.int .i64 at2) := BX.out.cell 1
          have kX_2 : y26.cell? ⟨x_, 2, none⟩ = some (.int .i64 lo2) := BX.out.cell 2
          have kX_3 : y26.cell? ⟨x_, 3, none⟩ = some (.int .i64 hi2) := BX.out.cell 3
          have kX_4 : y26.cell? ⟨x_, 4, none⟩ = some (.int .i64 pp2) := BX.out.cell 4
          have kX_5 : y26.cell? ⟨x_, 5, none⟩ = some (.int .i64 le2) := BX.out.cell 5
          have kX_6 : y26.cell? ⟨x_, 6, none⟩ = some (.int .i64 re2) := BX.out.cell 6
          have kU_0 : y26.cell? ⟨u_, 0, none⟩ = some (.int .i64 c1) := BU.out.cell 0
          have kU_1 : y26.cell? ⟨u_, 1, none⟩ = some (.int .i64 at2) := BU.out.cell 1
          have kU_2 : y26.cell? ⟨u_, 2, none⟩ = some (.int .i64 lo2) := BU.out.cell 2
          have kU_3 : y26.cell? ⟨u_, 3, none⟩ = some (.int .i64 hi2) := BU.out.cell 3
          have kU_4 : y26.cell? ⟨u_, 4, none⟩ = some (.int .i64 pp2) := BU.out.cell 4
          have kU_5 : y26.cell? ⟨u_, 5, none⟩ = some (.int .i64 le2) := BU.out.cell 5
          have kU_6 : y26.cell? ⟨u_, 6, none⟩ = some (.int .i64 re2) := BU.out.cell 6
          go_wp2
          go_ret
          exact ⟨rfl, R27.out⟩
end Go.Proofs.Ytbjmojajhkhekaa
