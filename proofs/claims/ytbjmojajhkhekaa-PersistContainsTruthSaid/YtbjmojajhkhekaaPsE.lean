/- A saved state is loaded as it was: plain; the known case. -/
import Derived.Test.YtbjmojajhkhekaaPsD
import Derived.Test.YtbjmojajhkhekaaPutBe
namespace Go.Proofs.Ytbjmojajhkhekaa
open Go.RowKit

theorem i64of_num (x : Int) (h : -9223372036854775808 ≤ x ∧ x ≤ 9223372036854775807) : i64of (x % 18446744073709551616).toNat = x := by
  unfold i64of
  rw [Int.toNat_of_nonneg (Int.emod_nonneg x (by decide))]
  simp [IntKind.wrap, IntKind.bits, IntKind.signed]
  omega
theorem loadN_at (A R : List UInt8) (x : Int) (i : Nat) (hA : A.length = 8 * i) (h : -9223372036854775808 ≤ x ∧ x ≤ 9223372036854775807) : loadN (A ++ (num8 x ++ R)) i = x := by
  have e : (A ++ (num8 x ++ R)).drop (8 * i) = num8 x ++ R := by rw [← hA]; simp
  unfold loadN
  rw [e]
  unfold num8
  rw [pb_be_putL _ _ (by decide)]
  have h2 : (x % 18446744073709551616).toNat % 256 ^ 8 = (x % 18446744073709551616).toNat := Nat.mod_eq_of_lt (by have := Int.emod_lt_of_pos x (b := 18446744073709551616) (by decide); omega)
  rw [h2]
  exact i64of_num x h
theorem saveL_take (cn at_ lo hi pp le re : Int) : (saveL [cn, at_, lo, hi, pp, le, re]).take 64 = bodyL [cn, at_, lo, hi, pp, le, re] := by
  have h := bodyL_len cn at_ lo hi pp le re
  unfold saveL
  rw [← h]; simp
theorem saveL_drop (cn at_ lo hi pp le re : Int) : (saveL [cn, at_, lo, hi, pp, le, re]).drop 64 = shortL (bodyL [cn, at_, lo, hi, pp, le, re]) := by
  have h := bodyL_len cn at_ lo hi pp le re
  unfold saveL
  rw [← h]; simp
theorem saveL_magic (cn at_ lo hi pp le re : Int) : (saveL [cn, at_, lo, hi, pp, le, re]).take 8 = magicL := by
  unfold saveL bodyL
  rw [List.append_assoc]
  exact List.take_left' rfl
theorem saveL_1 (cn at_ lo hi pp le re : Int) (b_cn : -9223372036854775808 ≤ cn ∧ cn ≤ 9223372036854775807) : loadN (saveL [cn, at_, lo, hi, pp, le, re]) 1 = cn := by
  have e : saveL [cn, at_, lo, hi, pp, le, re] = (magicL) ++ (num8 cn ++ (num8 at_ ++ num8 lo ++ num8 hi ++ num8 pp ++ num8 le ++ num8 re ++ shortL (bodyL [cn, at_, lo, hi, pp, le, re]))) := by
    unfold saveL
    conv => lhs; arg 1; unfold bodyL
    simp only [List.flatMap_cons, List.flatMap_nil, List.append_nil, List.append_assoc]
  rw [e]
  exact loadN_at _ _ _ _ (by simp [num8_len, magicL]) b_cn
theorem saveL_2 (cn at_ lo hi pp le re : Int) (b_at_ : -9223372036854775808 ≤ at_ ∧ at_ ≤ 9223372036854775807) : loadN (saveL [cn, at_, lo, hi, pp, le, re]) 2 = at_ := by
  have e : saveL [cn, at_, lo, hi, pp, le, re] = (magicL ++ num8 cn) ++ (num8 at_ ++ (num8 lo ++ num8 hi ++ num8 pp ++ num8 le ++ num8 re ++ shortL (bodyL [cn, at_, lo, hi, pp, le, re]))) := by
    unfold saveL
    conv => lhs; arg 1; unfold bodyL
    simp only [List.flatMap_cons, List.flatMap_nil, List.append_nil, List.append_assoc]
  rw [e]
  exact loadN_at _ _ _ _ (by simp [num8_len, magicL]) b_at_
theorem saveL_3 (cn at_ lo hi pp le re : Int) (b_lo : -9223372036854775808 ≤ lo ∧ lo ≤ 9223372036854775807) : loadN (saveL [cn, at_, lo, hi, pp, le, re]) 3 = lo := by
  have e : saveL [cn, at_, lo, hi, pp, le, re] = (magicL ++ num8 cn ++ num8 at_) ++ (num8 lo ++ (num8 hi ++ num8 pp ++ num8 le ++ num8 re ++ shortL (bodyL [cn, at_, lo, hi, pp, le, re]))) := by
    unfold saveL
    conv => lhs; arg 1; unfold bodyL
    simp only [List.flatMap_cons, List.flatMap_nil, List.append_nil, List.append_assoc]
  rw [e]
  exact loadN_at _ _ _ _ (by simp [num8_len, magicL]) b_lo
theorem saveL_4 (cn at_ lo hi pp le re : Int) (b_hi : -9223372036854775808 ≤ hi ∧ hi ≤ 9223372036854775807) : loadN (saveL [cn, at_, lo, hi, pp, le, re]) 4 = hi := by
  have e : saveL [cn, at_, lo, hi, pp, le, re] = (magicL ++ num8 cn ++ num8 at_ ++ num8 lo) ++ (num8 hi ++ (num8 pp ++ num8 le ++ num8 re ++ shortL (bodyL [cn, at_, lo, hi, pp, le, re]))) := by
    unfold saveL
    conv => lhs; arg 1; unfold bodyL
    simp only [List.flatMap_cons, List.flatMap_nil, List.append_nil, List.append_assoc]
  rw [e]
  exact loadN_at _ _ _ _ (by simp [num8_len, magicL]) b_hi
theorem saveL_5 (cn at_ lo hi pp le re : Int) (b_pp : -9223372036854775808 ≤ pp ∧ pp ≤ 9223372036854775807) : loadN (saveL [cn, at_, lo, hi, pp, le, re]) 5 = pp := by
  have e : saveL [cn, at_, lo, hi, pp, le, re] = (magicL ++ num8 cn ++ num8 at_ ++ num8 lo ++ num8 hi) ++ (num8 pp ++ (num8 le ++ num8 re ++ shortL (bodyL [cn, at_, lo, hi, pp, le, re]))) := by
    unfold saveL
    conv => lhs; arg 1; unfold bodyL
    simp only [List.flatMap_cons, List.flatMap_nil, List.append_nil, List.append_assoc]
  rw [e]
  exact loadN_at _ _ _ _ (by simp [num8_len, magicL]) b_pp
theorem saveL_6 (cn at_ lo hi pp le re : Int) (b_le : -9223372036854775808 ≤ le ∧ le ≤ 9223372036854775807) : loadN (saveL [cn, at_, lo, hi, pp, le, re]) 6 = le := by
  have e : saveL [cn, at_, lo, hi, pp, le, re] = (magicL ++ num8 cn ++ num8 at_ ++ num8 lo ++ num8 hi ++ num8 pp) ++ (num8 le ++ (num8 re ++ shortL (bodyL [cn, at_, lo, hi, pp, le, re]))) := by
    unfold saveL
    conv => lhs; arg 1; unfold bodyL
    simp only [List.flatMap_cons, List.flatMap_nil, List.append_nil, List.append_assoc]
  rw [e]
  exact loadN_at _ _ _ _ (by simp [num8_len, magicL]) b_le
theorem saveL_7 (cn at_ lo hi pp le re : Int) (b_re : -9223372036854775808 ≤ re ∧ re ≤ 9223372036854775807) : loadN (saveL [cn, at_, lo, hi, pp, le, re]) 7 = re := by
  have e : saveL [cn, at_, lo, hi, pp, le, re] = (magicL ++ num8 cn ++ num8 at_ ++ num8 lo ++ num8 hi ++ num8 pp ++ num8 le) ++ (num8 re ++ (shortL (bodyL [cn, at_, lo, hi, pp, le, re]))) := by
    unfold saveL
    conv => lhs; arg 1; unfold bodyL
    simp only [List.flatMap_cons, List.flatMap_nil, List.append_nil, List.append_assoc]
  rw [e]
  exact loadN_at _ _ _ _ (by simp [num8_len, magicL]) b_re
theorem load_saved (cn at_ lo hi pp le re : Int) (b_cn : -9223372036854775808 ≤ cn ∧ cn ≤ 9223372036854775807) (b_at_ : -9223372036854775808 ≤ at_ ∧ at_ ≤ 9223372036854775807) (b_lo : -9223372036854775808 ≤ lo ∧ lo ≤ 9223372036854775807) (b_hi : -9223372036854775808 ≤ hi ∧ hi ≤ 9223372036854775807) (b_pp : -9223372036854775808 ≤ pp ∧ pp ≤ 9223372036854775807) (b_le : -9223372036854775808 ≤ le ∧ le ≤ 9223372036854775807) (b_re : -9223372036854775808 ≤ re ∧ re ≤ 9223372036854775807) (h0 : svE cn at_ lo hi pp le re = 0) (A : Option Addr) (c : Nat) (w : World) (hv : Bytes w A 80 c (saveL [cn, at_, lo, hi, pp, le, re])) :
    Calls Try.prog 23 #[.slice A 80 c] w fun e w' => e = .returned (.tuple #[.agg #[.int .i64 cn, .int .i64 at_, .int .i64 lo, .int .i64 hi, .int .i64 pp, .int .i64 le, .int .i64 re], .int .i64 0]) ∧ Below w.heap.size w w' := by
  have h := load_ok A 80 c (saveL [cn, at_, lo, hi, pp, le, re]) w hv rfl (saveL_magic cn at_ lo hi pp le re) (by rw [saveL_take, saveL_drop]) (by rw [saveL_1 cn at_ lo hi pp le re b_cn, saveL_2 cn at_ lo hi pp le re b_at_, saveL_3 cn at_ lo hi pp le re b_lo, saveL_4 cn at_ lo hi pp le re b_hi, saveL_5 cn at_ lo hi pp le re b_pp, saveL_6 cn at_ lo hi pp le re b_le, saveL_7 cn at_ lo hi pp le re b_re]; exact h0)
  rw [saveL_1 cn at_ lo hi pp le re b_cn, saveL_2 cn at_ lo hi pp le re b_at_, saveL_3 cn at_ lo hi pp le re b_lo, saveL_4 cn at_ lo hi pp le re b_hi, saveL_5 cn at_ lo hi pp le re b_pp, saveL_6 cn at_ lo hi pp le re b_le, saveL_7 cn at_ lo hi pp le re b_re] at h
  exact h
theorem refLoad_saved (cn at_ lo hi pp le re : Int) (b_cn : -9223372036854775808 ≤ cn ∧ cn ≤ 9223372036854775807) (b_at_ : -9223372036854775808 ≤ at_ ∧ at_ ≤ 9223372036854775807) (b_lo : -9223372036854775808 ≤ lo ∧ lo ≤ 9223372036854775807) (b_hi : -9223372036854775808 ≤ hi ∧ hi ≤ 9223372036854775807) (b_pp : -9223372036854775808 ≤ pp ∧ pp ≤ 9223372036854775807) (b_le : -9223372036854775808 ≤ le ∧ le ≤ 9223372036854775807) (b_re : -9223372036854775808 ≤ re ∧ re ≤ 9223372036854775807) (h0 : svE cn at_ lo hi pp le re = 0) (A : Option Addr) (c : Nat) (w : World) (hv : Bytes w A 80 c (saveL [cn, at_, lo, hi, pp, le, re])) :
    Calls Try.prog 32 #[.slice A 80 c] w fun e w' => e = .returned (.tuple #[.agg #[.int .i64 cn, .int .i64 at_, .int .i64 lo, .int .i64 hi, .int .i64 pp, .int .i64 le, .int .i64 re], .int .i64 0]) ∧ Below w.heap.size w w' := by
  have h := refLoad_ok A 80 c (saveL [cn, at_, lo, hi, pp, le, re]) w hv rfl (saveL_magic cn at_ lo hi pp le re) (by rw [saveL_take, saveL_drop]) (by rw [saveL_1 cn at_ lo hi pp le re b_cn, saveL_2 cn at_ lo hi pp le re b_at_, saveL_3 cn at_ lo hi pp le re b_lo, saveL_4 cn at_ lo hi pp le re b_hi, saveL_5 cn at_ lo hi pp le re b_pp, saveL_6 cn at_ lo hi pp le re b_le, saveL_7 cn at_ lo hi pp le re b_re]; exact h0)
  rw [saveL_1 cn at_ lo hi pp le re b_cn, saveL_2 cn at_ lo hi pp le re b_at_, saveL_3 cn at_ lo hi pp le re b_lo, saveL_4 cn at_ lo hi pp le re b_hi, saveL_5 cn at_ lo hi pp le re b_pp, saveL_6 cn at_ lo hi pp le re b_le, saveL_7 cn at_ lo hi pp le re b_re] at h
  exact h
set_option maxRecDepth 100000 in
set_option maxHeartbeats 4000000 in
theorem psKnown (w : World) : Calls Try.prog 24 #[] w fun e w' => e = .returned (.bool true) ∧ Below w.heap.size w w' := by
  go_enter Try.func24, Try.ntmps24
  go_upto_region 2 with fail
  obtain ⟨x1, s_, ex1, es_⟩ : ∃ x1 s_, x1 = w.alloc (.cells #[.int .i64 3, .int .i64 (-5), .int .i64 7, .int .i64 9, .int .i64 100, .int .i64 2, .int .i64 0] 41) ∧ s_ = w.heap.size := ⟨_, _, rfl, rfl⟩
  rw [← ex1, ← es_]
  have hbx : Below w.heap.size w x1 := by rw [ex1]; exact below_alloc1 _ _ 
  have g_S : w.heap.size ≤ s_ := by rw [es_]; exact Nat.le_refl _
  have BS := Lib.hid (show Blk x1 s_ 41 #[.int .i64 3, .int .i64 (-5), .int .i64 7, .int .i64 9, .int .i64 100, .int .i64 2, .int .i64 0] by rw [ex1, es_]; exact blk_new1_0 _ _ _ )
  have R2 := Lib.hid hbx
  have hz_x1 := R2.out.size
  clear hbx ex1 es_
  have kS_0 : x1.cell? ⟨s_, 0, none⟩ = some (.int .i64 3) := BS.out.cell 0
  have kS_1 : x1.cell? ⟨s_, 1, none⟩ = some (.int .i64 (-5)) := BS.out.cell 1
  have kS_2 : x1.cell? ⟨s_, 2, none⟩ = some (.int .i64 7) := BS.out.cell 2
  have kS_3 : x1.cell? ⟨s_, 3, none⟩ = some (.int .i64 9) := BS.out.cell 3
  have kS_4 : x1.cell? ⟨s_, 4, none⟩ = some (.int .i64 100) := BS.out.cell 4
  have kS_5 : x1.cell? ⟨s_, 5, none⟩ = some (.int .i64 2) := BS.out.cell 5
  have kS_6 : x1.cell? ⟨s_, 6, none⟩ = some (.int .i64 0) := BS.out.cell 6
  go_wp2_with fail
  refine (save_ok 3 (-5) 7 9 100 2 0 _ (by decide)).mono ?_
  rintro e y3 ⟨A1, c1, rfl, hv, hb⟩
  clear kS_0 kS_1 kS_2 kS_3 kS_4 kS_5 kS_6
  have hbx : Below x1.heap.size x1 y3 := below_via (by go_grown) hb (by first | (simp; done) | (simp; omega))
  have BS := Lib.hid (BS.out.stays hbx)
  have V := Lib.hid hv
  have R4 := Lib.hid (R2.out.trans (hbx.mono hz_x1))
  have hz_y3 := R4.out.size
  clear hb hbx hv R2 hz_x1
  have v1 := V.out.le
  have v2 := V.out.cap
  go_wp2_with fail
  refine (load_saved 3 (-5) 7 9 100 2 0 (by decide) (by decide) (by decide) (by decide) (by decide) (by decide) (by decide) (by decide) _ _ _ V.out).mono ?_
  rintro e y5 ⟨rfl, hb⟩
  have hbx : Below y3.heap.size y3 y5 := below_via (by go_grown) hb (by first | (simp; done) | (simp; omega))
  have BS := Lib.hid (BS.out.stays hbx)
  have V := Lib.hid (V.out.stays hbx)
  have R6 := Lib.hid (R4.out.trans (hbx.mono hz_y3))
  have hz_y5 := R6.out.size
  clear hb hbx  R4 hz_y3
  go_upto_region 4 with fail
  obtain ⟨x7, t_, ex7, et_⟩ : ∃ x7 t_, x7 = y5.alloc (.cells #[.int .i64 3, .int .i64 (-5), .int .i64 7, .int .i64 9, .int .i64 100, .int .i64 2, .int .i64 0] 41) ∧ t_ = y5.heap.size := ⟨_, _, rfl, rfl⟩
  rw [← ex7, ← et_]
  have hbx : Below y5.heap.size y5 x7 := by rw [ex7]; exact below_alloc1 _ _ 
  have o_S_T : s_ < t_ := by rw [et_]; exact BS.out.lt
  have g_T : w.heap.size ≤ t_ := by rw [et_]; exact hz_y5
  have BS := Lib.hid (BS.out.stays hbx)
  have V := Lib.hid (V.out.stays hbx)
  have BT := Lib.hid (show Blk x7 t_ 41 #[.int .i64 3, .int .i64 (-5), .int .i64 7, .int .i64 9, .int .i64 100, .int .i64 2, .int .i64 0] by rw [ex7, et_]; exact blk_new1_0 _ _ _ )
  have R8 := Lib.hid (R6.out.trans (hbx.mono hz_y5))
  have hz_x7 := R8.out.size
  clear hbx ex7 et_ R6 hz_y5
  have kS_0 : x7.cell? ⟨s_, 0, none⟩ = some (.int .i64 3) := BS.out.cell 0
  have kS_1 : x7.cell? ⟨s_, 1, none⟩ = some (.int .i64 (-5)) := BS.out.cell 1
  have kS_2 : x7.cell? ⟨s_, 2, none⟩ = some (.int .i64 7) := BS.out.cell 2
  have kS_3 : x7.cell? ⟨s_, 3, none⟩ = some (.int .i64 9) := BS.out.cell 3
  have kS_4 : x7.cell? ⟨s_, 4, none⟩ = some (.int .i64 100) := BS.out.cell 4
  have kS_5 : x7.cell? ⟨s_, 5, none⟩ = some (.int .i64 2) := BS.out.cell 5
  have kS_6 : x7.cell? ⟨s_, 6, none⟩ = some (.int .i64 0) := BS.out.cell 6
  have kT_0 : x7.cell? ⟨t_, 0, none⟩ = some (.int .i64 3) := BT.out.cell 0
  have kT_1 : x7.cell? ⟨t_, 1, none⟩ = some (.int .i64 (-5)) := BT.out.cell 1
  have kT_2 : x7.cell? ⟨t_, 2, none⟩ = some (.int .i64 7) := BT.out.cell 2
  have kT_3 : x7.cell? ⟨t_, 3, none⟩ = some (.int .i64 9) := BT.out.cell 3
  have kT_4 : x7.cell? ⟨t_, 4, none⟩ = some (.int .i64 100) := BT.out.cell 4
  have kT_5 : x7.cell? ⟨t_, 5, none⟩ = some (.int .i64 2) := BT.out.cell 5
  have kT_6 : x7.cell? ⟨t_, 6, none⟩ = some (.int .i64 0) := BT.out.cell 6
  go_wp2
  go_ret
  exact ⟨rfl, R8.out⟩
end Go.Proofs.Ytbjmojajhkhekaa
