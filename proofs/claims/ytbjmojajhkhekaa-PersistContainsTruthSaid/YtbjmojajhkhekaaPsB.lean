/- persist.Save, sectimeref39.Body, Save. -/
import Derived.Test.YtbjmojajhkhekaaPsA
import Derived.Test.YtbjmojajhkhekaaHash2
import Derived.Test.YtbjmojajhkhekaaRefS2
import Derived.Test.YtbjmojajhkhekaaRefJoin
import Derived.Lib.SlBytesConst
import Derived.ArgAppend
namespace Go.Proofs.Ytbjmojajhkhekaa
open Go.RowKit

def num8 (x : Int) : List UInt8 := putL (x % 18446744073709551616).toNat 8
def magicL : List UInt8 := [115, 101, 99, 116, 105, 109, 101, 49]
def bodyL (l : List Int) : List UInt8 := magicL ++ l.flatMap num8
def saveL (l : List Int) : List UInt8 := bodyL l ++ shortL (bodyL l)
theorem num8_len (x : Int) : (num8 x).length = 8 := putL_length _ _
theorem flat8_len : ∀ l : List Int, (l.flatMap num8).length = 8 * l.length
  | [] => rfl
  | x :: l => by rw [List.flatMap_cons, List.length_append, num8_len, flat8_len l, List.length_cons]; omega
theorem bodyL_len (cn at_ lo hi pp le re : Int) : (bodyL [cn, at_, lo, hi, pp, le, re]).length = 64 := by unfold bodyL; rw [List.length_append, flat8_len]; rfl
theorem wrap_u64 (x : Int) : IntKind.u64.wrap x = ((x % 18446744073709551616).toNat : Int) := by
  have h := Int.emod_nonneg x (b := 18446744073709551616) (by decide)
  rw [Int.toNat_of_nonneg h]
  simp [IntKind.wrap, IntKind.bits, IntKind.signed]
theorem magic_cells : magicL.map byteV = [.int .u8 115, .int .u8 101, .int .u8 99, .int .u8 116, .int .u8 105, .int .u8 109, .int .u8 101, .int .u8 49] := rfl
theorem grow_below {w0 w1 w w' : World} {B e size n c : Nat} {A : Option Addr} {xs : List Value} (h : Below w1.heap.size w1 w) (hg : w.grownBy w' (Value.slice A n c).ownBlock) (ho : w.ownsRow B e size (.slice A n c) n xs) (hB : w1.heap.size ≤ B) : Below w1.heap.size w1 w' :=
  h.grown hg h.size (fun k hk => Nat.le_trans hB (ho.lt k hk).1)
theorem rd_marked (W : World) (m : Nat × Nat) (E : TypeId) : Rd (W.alloc (.cells #[.int .u8 115, .int .u8 101, .int .u8 99, .int .u8 116, .int .u8 105, .int .u8 109, .int .u8 101, .int .u8 49] E m)) 1 (some ⟨W.heap.size, 0, none⟩) 8 8 (magicL.map byteV) := by
  refine ⟨rfl, Nat.le_refl _, by decide, fun i u hu => ⟨_, _, rfl, ?_⟩⟩
  rw [cell_of_row _ _ (0 + i) _ E m (heap_alloc_new W _), Nat.zero_add]
  simpa [magicL, byteV] using hu
section
variable {P : Program} {w : World} {e b n cap m c2 : Nat} {A2 : Option Addr} {olds news : List Value}
theorem wpList_append_full {ops : Array Oper} {rest : List Oper} {o : Oper} {a : Act} {Q : Exit → Act → World → Prop} (hgd : o.guard = none) (s x : Operand) (t : TypeId)
    (ho : o.op = .call { callee := .builtin .append, args := #[s, x], argTypes := #[t, t] })
    (i : TypeInfo) (z : Value) (bytes : Nat) (ht : P.underlying t = some (.slice e)) (hi : P.info? e = some i) (hz : i.zero = some z)
    (hsize : i.size = 1) (hby : i.bytes = bytes) (hzs : z.cells.size = 1)
    (hs : a.eval s = .slice (some ⟨b, 0, none⟩) n cap) (hr : Rd w 1 (some ⟨b, 0, none⟩) n cap olds) (hx : a.eval x = .slice A2 m c2) (hr2 : Rd w 1 A2 m c2 news) (hm : 0 < m) (h1 : ∀ u ∈ news, u.oneCell' = true)
    (hfull : cap < n + m) (h63 : n + m ≤ maxLen) (hbytes : (n + m) * bytes ≤ 140737488355328)
    (h : ∀ A' c' w', w'.ownsRow w.heap.size e 1 (.slice A' (n + m) c') (n + m) (olds ++ news) → Below w.heap.size w w' → wpList P ops Q rest (a.put o.dst (.slice A' (n + m) c')) w') : wpList P ops Q (o :: rest) a w := by
  have hlo : olds.length = n := by have := hr.1; omega
  have hln : news.length = m := by have := hr2.1; omega
  have holds : ∀ j u, olds[j]? = some u → w.cell? ⟨b, j, none⟩ = some u := fun j u hu => by
    obtain ⟨b', off', e', hc⟩ := hr.2.2.2 j u hu
    simp only [Option.some.injEq, Addr.mk.injEq, and_true] at e'
    obtain ⟨rfl, rfl⟩ := e'
    rwa [Nat.zero_add] at hc
  obtain ⟨b2, off2, rfl, _⟩ := hr2.2.2.2 0 (news[0]'(by omega)) (List.getElem?_eq_getElem (by omega))
  have hnews : ∀ j u, news[j]? = some u → w.cell? ((⟨b2, off2, none⟩ : Addr).add j) = some u := fun j u hu => by
    obtain ⟨b', off', e', hc⟩ := hr2.2.2.2 j u hu
    simp only [Option.some.injEq, Addr.mk.injEq, and_true] at e'
    obtain ⟨rfl, rfl⟩ := e'
    rw [add_off]; exact hc
  obtain ⟨v', w', hrun, hown, hg⟩ := run_append_arg_grows (P := P) w t o.type e i z 1 bytes ht hi hz hsize hby hzs (by decide) ⟨b, 0, none⟩ n cap olds (by omega) (fun j u hu => by rw [add_off, Nat.zero_add]; exact holds j u hu) ⟨b2, off2, none⟩ m c2 news (by omega) hnews (by omega) h63 hbytes
  obtain ⟨A', c', rfl⟩ := own_form hown
  exact Lib.wpList_append_run w hgd s x t t ho _ _ hs hx _ _ hrun (h A' c' w' hown ((Below.refl _ w).grown hg (by omega) (fun k hk => by cases hk)))
end
theorem take_next (l : List Int) (k : Nat) (x : Int) (h : l[k]? = some x) : (l.take (k + 1)).flatMap num8 = (l.take k).flatMap num8 ++ num8 x := by
  have hk : k < l.length := by
    rcases Nat.lt_or_ge k l.length with h1 | h1
    · exact h1
    · rw [List.getElem?_eq_none h1] at h; cases h
  rw [List.take_add_one, h, List.flatMap_append]
  simp
set_option maxRecDepth 100000 in
set_option maxHeartbeats 4000000 in
theorem save_ok (cn at_ lo hi pp le re : Int) (w : World) (h0 : svE cn at_ lo hi pp le re = 0) :
    Calls Try.prog 21 #[.agg #[.int .i64 cn, .int .i64 at_, .int .i64 lo, .int .i64 hi, .int .i64 pp, .int .i64 le, .int .i64 re]] w fun e w' => ∃ A' c', e = .returned (.tuple #[.slice A' 80 c', .int .i64 0]) ∧ Bytes w' A' 80 c' (saveL [cn, at_, lo, hi, pp, le, re]) ∧ Below w.heap.size w w' := by
  have HE := Lib.hid h0
  obtain ⟨i0, hi0, hz0, hz1, hz2⟩ := info_parts infoByteA
  clear h0
  go_enter Try.func21, Try.ntmps21
  go_upto_region 1 with fail
  obtain ⟨x1, s_, ex1, es_⟩ : ∃ x1 s_, x1 = w.alloc (.cells #[.int .i64 cn, .int .i64 at_, .int .i64 lo, .int .i64 hi, .int .i64 pp, .int .i64 le, .int .i64 re] 41) ∧ s_ = w.heap.size := ⟨_, _, rfl, rfl⟩
  rw [← ex1, ← es_]
  have hbx : Below w.heap.size w x1 := by rw [ex1]; exact below_alloc1 _ _ 
  have g_S : w.heap.size ≤ s_ := by rw [es_]; exact Nat.le_refl _
  have BS := Lib.hid (show Blk x1 s_ 41 #[.int .i64 cn, .int .i64 at_, .int .i64 lo, .int .i64 hi, .int .i64 pp, .int .i64 le, .int .i64 re] by rw [ex1, es_]; exact blk_new1_0 _ _ _ )
  have R2 := Lib.hid hbx
  have hz_x1 := R2.out.size
  clear hbx ex1 es_
  have kS_0 : x1.cell? ⟨s_, 0, none⟩ = some (.int .i64 cn) := BS.out.cell 0
  have kS_1 : x1.cell? ⟨s_, 1, none⟩ = some (.int .i64 at_) := BS.out.cell 1
  have kS_2 : x1.cell? ⟨s_, 2, none⟩ = some (.int .i64 lo) := BS.out.cell 2
  have kS_3 : x1.cell? ⟨s_, 3, none⟩ = some (.int .i64 hi) := BS.out.cell 3
  have kS_4 : x1.cell? ⟨s_, 4, none⟩ = some (.int .i64 pp) := BS.out.cell 4
  have kS_5 : x1.cell? ⟨s_, 5, none⟩ = some (.int .i64 le) := BS.out.cell 5
  have kS_6 : x1.cell? ⟨s_, 6, none⟩ = some (.int .i64 re) := BS.out.cell 6
  go_wp2_with fail
  refine (savedV cn at_ lo hi pp le re _).mono ?_
  rintro e y3 ⟨rfl, hb⟩
  clear kS_0 kS_1 kS_2 kS_3 kS_4 kS_5 kS_6
  have hbx : Below x1.heap.size x1 y3 := below_via (by go_grown) hb (by first | (simp; done) | (simp; omega))
  have BS := Lib.hid (BS.out.stays hbx)
  have R4 := Lib.hid (R2.out.trans (hbx.mono hz_x1))
  have hz_y3 := R4.out.size
  clear hb hbx  R2 hz_x1
  rw [HE.out]
  have kS_0 : y3.cell? ⟨s_, 0, none⟩ = some (.int .i64 cn) := BS.out.cell 0
  have kS_1 : y3.cell? ⟨s_, 1, none⟩ = some (.int .i64 at_) := BS.out.cell 1
  have kS_2 : y3.cell? ⟨s_, 2, none⟩ = some (.int .i64 lo) := BS.out.cell 2
  have kS_3 : y3.cell? ⟨s_, 3, none⟩ = some (.int .i64 hi) := BS.out.cell 3
  have kS_4 : y3.cell? ⟨s_, 4, none⟩ = some (.int .i64 pp) := BS.out.cell 4
  have kS_5 : y3.cell? ⟨s_, 5, none⟩ = some (.int .i64 le) := BS.out.cell 5
  have kS_6 : y3.cell? ⟨s_, 6, none⟩ = some (.int .i64 re) := BS.out.cell 6
  have hcv := fun (W : World) => Lib.run_convert_bytes_const (P := Try.prog) W 28 5 #[.int .u8 115, .int .u8 101, .int .u8 99, .int .u8 116, .int .u8 105, .int .u8 109, .int .u8 101, .int .u8 49] 8 8 Try.underlying28 Try.underlying5
  go_upto_region 5 with fail
  clear kS_0 kS_1 kS_2 kS_3 kS_4 kS_5 kS_6
  clear hcv
  obtain ⟨x5, m_, ex5, em_⟩ : ∃ x5 m_, x5 = y3.alloc (.cells #[.int .u8 115, .int .u8 101, .int .u8 99, .int .u8 116, .int .u8 105, .int .u8 109, .int .u8 101, .int .u8 49] 5 (8, 9)) ∧ m_ = y3.heap.size := ⟨_, _, rfl, rfl⟩
  rw [← ex5, ← em_]
  have hbx : Below y3.heap.size y3 x5 := by rw [ex5]; exact below_alloc1 _ _
  have BS := Lib.hid (BS.out.stays hbx)
  have RM := Lib.hid (show Rd x5 1 (some ⟨m_, 0, none⟩) 8 8 (magicL.map byteV) by rw [ex5, em_]; exact rd_marked _ _ _)
  have g_M : w.heap.size ≤ m_ := by rw [em_]; exact hz_y3
  have mlt : m_ < x5.heap.size := by rw [ex5, em_]; simp
  have R6 := Lib.hid (R4.out.trans (hbx.mono hz_y3))
  have hz_x5 := R6.out.size
  clear hbx ex5 em_ R4 hz_y3
  have kS_0 : x5.cell? ⟨s_, 0, none⟩ = some (.int .i64 cn) := BS.out.cell 0
  have kS_1 : x5.cell? ⟨s_, 1, none⟩ = some (.int .i64 at_) := BS.out.cell 1
  have kS_2 : x5.cell? ⟨s_, 2, none⟩ = some (.int .i64 lo) := BS.out.cell 2
  have kS_3 : x5.cell? ⟨s_, 3, none⟩ = some (.int .i64 hi) := BS.out.cell 3
  have kS_4 : x5.cell? ⟨s_, 4, none⟩ = some (.int .i64 pp) := BS.out.cell 4
  have kS_5 : x5.cell? ⟨s_, 5, none⟩ = some (.int .i64 le) := BS.out.cell 5
  have kS_6 : x5.cell? ⟨s_, 6, none⟩ = some (.int .i64 re) := BS.out.cell 6
  go_upto_region 6 with fail
  clear kS_0 kS_1 kS_2 kS_3 kS_4 kS_5 kS_6
  obtain ⟨x7, k_, ex7, ek_⟩ : ∃ x7 k_, x7 = x5.alloc (.cells #[.int .i64 at_, .int .i64 lo, .int .i64 hi, .int .i64 pp, .int .i64 le, .int .i64 re] 39) ∧ k_ = x5.heap.size := ⟨_, _, rfl, rfl⟩
  rw [← ex7, ← ek_]
  have hbx : Below x5.heap.size x5 x7 := by rw [ex7]; exact below_alloc1 _ _ 
  have o_S_K : s_ < k_ := by rw [ek_]; exact BS.out.lt
  have g_K : w.heap.size ≤ k_ := by rw [ek_]; exact hz_x5
  have BS := Lib.hid (BS.out.stays hbx)
  have RM := Lib.hid (RM.out.stays hbx)
  have BK := Lib.hid (show Blk x7 k_ 39 #[.int .i64 at_, .int .i64 lo, .int .i64 hi, .int .i64 pp, .int .i64 le, .int .i64 re] by rw [ex7, ek_]; exact blk_new1_0 _ _ _ )
  have R8 := Lib.hid (R6.out.trans (hbx.mono hz_x5))
  have hz_x7 := R8.out.size
  clear hbx ex7 ek_ R6 hz_x5
  have kS_0 : x7.cell? ⟨s_, 0, none⟩ = some (.int .i64 cn) := BS.out.cell 0
  have kS_1 : x7.cell? ⟨s_, 1, none⟩ = some (.int .i64 at_) := BS.out.cell 1
  have kS_2 : x7.cell? ⟨s_, 2, none⟩ = some (.int .i64 lo) := BS.out.cell 2
  have kS_3 : x7.cell? ⟨s_, 3, none⟩ = some (.int .i64 hi) := BS.out.cell 3
  have kS_4 : x7.cell? ⟨s_, 4, none⟩ = some (.int .i64 pp) := BS.out.cell 4
  have kS_5 : x7.cell? ⟨s_, 5, none⟩ = some (.int .i64 le) := BS.out.cell 5
  have kS_6 : x7.cell? ⟨s_, 6, none⟩ = some (.int .i64 re) := BS.out.cell 6
  have kK_0 : x7.cell? ⟨k_, 0, none⟩ = some (.int .i64 at_) := BK.out.cell 0
  have kK_1 : x7.cell? ⟨k_, 1, none⟩ = some (.int .i64 lo) := BK.out.cell 1
  have kK_2 : x7.cell? ⟨k_, 2, none⟩ = some (.int .i64 hi) := BK.out.cell 2
  have kK_3 : x7.cell? ⟨k_, 3, none⟩ = some (.int .i64 pp) := BK.out.cell 3
  have kK_4 : x7.cell? ⟨k_, 4, none⟩ = some (.int .i64 le) := BK.out.cell 4
  have kK_5 : x7.cell? ⟨k_, 5, none⟩ = some (.int .i64 re) := BK.out.cell 5
  go_wp2_with fail
  clear kS_0 kS_1 kS_2 kS_3 kS_4 kS_5 kS_6 kK_0 kK_1 kK_2 kK_3 kK_4 kK_5
  obtain ⟨x9, n_, ex9, en_⟩ : ∃ x9 n_, x9 = x7.alloc (.cells #[.int .i64 cn, .int .i64 at_, .int .i64 lo, .int .i64 hi, .int .i64 pp, .int .i64 le, .int .i64 re] 3) ∧ n_ = x7.heap.size := ⟨_, _, rfl, rfl⟩
  rw [← ex9, ← en_]
  have hbx : Below x7.heap.size x7 x9 := by rw [ex9]; exact below_alloc1 _ _ 
  have o_S_N : s_ < n_ := by rw [en_]; exact BS.out.lt
  have o_K_N : k_ < n_ := by rw [en_]; exact BK.out.lt
  have g_N : w.heap.size ≤ n_ := by rw [en_]; exact hz_x7
  have BS := Lib.hid (BS.out.stays hbx)
  have BK := Lib.hid (BK.out.stays hbx)
  have RM := Lib.hid (RM.out.stays hbx)
  have BN := Lib.hid (show Blk x9 n_ 3 #[.int .i64 cn, .int .i64 at_, .int .i64 lo, .int .i64 hi, .int .i64 pp, .int .i64 le, .int .i64 re] by rw [ex9, en_]; exact blk_new1_0 _ _ _ )
  have R10 := Lib.hid (R8.out.trans (hbx.mono hz_x7))
  have hz_x9 := R10.out.size
  clear hbx ex9 en_ R8 hz_x7
  go_loopw [5, 8, 36] (fun out x i wr => ∃ (k m cc : Nat) (AA : Option Addr), k ≤ 7 ∧ i = .int .i64 k ∧ out = .slice AA m cc ∧ Hid (m = 8 + 8 * k) ∧ ((k = 0 ∧ cc = 8 ∧ AA = some ⟨m_, 0, none⟩ ∧ Rd wr 1 AA 8 8 (magicL.map byteV)) ∨ (0 < k ∧ wr.ownsRow x9.heap.size 5 1 (.slice AA m cc) m ((magicL ++ ([cn, at_, lo, hi, pp, le, re].take k).flatMap num8).map byteV))) ∧ Below x9.heap.size x9 wr) (fun _ _ i _ => 7 - (intOf i).toNat)
  case atStart =>
    exact ⟨0, 8, _, _, by omega, rfl, rfl, rfl, .inl ⟨rfl, rfl, rfl, RM.out⟩, Below.refl _ _⟩
  case round =>
    clear RM
    obtain ⟨k, m, cc, AA, hk, rfl, rfl, hm, hown, hbr⟩ := hrel
    have HO := Lib.hid hown
    have hsr := hbr.size
    clear hown
    by_cases hk7 : k < 7
    · obtain ⟨x, hx, hc⟩ : ∃ x : Int, Hid ([cn, at_, lo, hi, pp, le, re][k]? = some x) ∧ wr.cell? ⟨n_, k, none⟩ = some (.int .i64 x) := by
        have hcc := (BN.out.stays hbr).cell k
        match k, hk7 with
        | 0, _ => exact ⟨cn, rfl, hcc⟩
        | 1, _ => exact ⟨at_, rfl, hcc⟩
        | 2, _ => exact ⟨lo, rfl, hcc⟩
        | 3, _ => exact ⟨hi, rfl, hcc⟩
        | 4, _ => exact ⟨pp, rfl, hcc⟩
        | 5, _ => exact ⟨le, rfl, hcc⟩
        | 6, _ => exact ⟨re, rfl, hcc⟩
      obtain ⟨y, hy⟩ : ∃ y, (x % 18446744073709551616).toNat = y := ⟨_, rfl⟩
      have wy : IntKind.u64.wrap x = (y : Int) := by rw [wrap_u64, hy]
      have hny : Hid (num8 x = putL y 8) := by unfold Hid num8; rw [hy]
      clear hy
      have hki : (k : Int) < 7 := by omega
      rcases HO.out with ⟨rfl, rfl, rfl, hrd⟩ | ⟨hk0, hown⟩
      · skip
        obtain rfl : m = 8 := by have := hm.out; omega
        have HO1 := Lib.hid hrd
        clear hrd HO
        go_wp2_with fail
        refine (put_reads y 8 (by decide) _).mono ?_
        rintro e w2 ⟨Ap, cp, rfl, hp, hb2⟩
        have HO2 := Lib.hid (HO1.out.stays hb2)
        have HP := Lib.hid hp
        have hs2 := hb2.size
        have hbr2 := hbr.trans (hb2.mono hsr)
        clear HO1 hp hb2
        skip
        go_wp2_with (at_builtin; refine wpList_append_full rfl _ _ 28 rfl i0 (.int .u8 0) 1 Try.underlying28 hi0 hz0 hz1 hz2 rfl rfl HO2.out rfl HP.out (by decide) (oneCell_bytes _) (by decide) (by decide) (by decide) ?_)
        intro A8 c8 w8 hown8 hb8
        have H8 := Lib.hid (own_more hown8 (show x9.heap.size ≤ w2.heap.size by omega))
        have hb9 := Lib.hid (hbr2.trans (hb8.mono (by omega)))
        clear hown8 hb8
        go_wp2
        go_roundw
        case rel =>
          refine ⟨0 + 1, 8 + 8, _, _, by omega, by go_num, rfl, by have := hm.out; unfold Hid; omega, .inr ⟨by omega, ?_⟩, hb9.out⟩
          rw [take_next _ 0 x hx.out, ← List.append_assoc, List.map_append, hny.out]
          simpa using H8.out
        case measure => simp [intOf]
      · skip
        have hq1 := (own_rd hown).2.1
        have hq2 : cc ≤ 9223372036854775807 := by have := (own_rd hown).2.2.1; unfold maxLen at this; omega
        have HO1 := Lib.hid hown
        clear hown HO
        go_wp2_with fail
        refine (put_reads y 8 (by decide) _).mono ?_
        rintro e w2 ⟨Ap, cp, rfl, hp, hb2⟩
        have HO2 := Lib.hid (own_below HO1.out hb2)
        have HP := Lib.hid hp
        have hs2 := hb2.size
        have hbr2 := hbr.trans (hb2.mono hsr)
        clear HO1 hp hb2
        have hm100 : m ≤ 100 := by have := hm.out; omega
        go_wp2_with (at_builtin; refine wpList_append_rd rfl _ _ 28 rfl i0 (.int .u8 0) 1 Try.underlying28 hi0 hz0 hz1 hz2 rfl (by decide) rfl HO2.out rfl HP.out (oneCell_bytes _) (by unfold maxLen; omega) (by omega) (by omega) ?_)
        intro A8 c8 w8 hown8 hg8 hb8
        have H8 := Lib.hid hown8
        have hb9 := Lib.hid (hbr2.trans hb8)
        clear hown8 hg8 hb8
        go_wp2
        go_roundw
        case rel =>
          refine ⟨k + 1, m + 8, _, _, by omega, by go_num, rfl, by have := hm.out; unfold Hid; omega, .inr ⟨by omega, ?_⟩, hb9.out⟩
          rw [take_next _ k x hx.out, ← List.append_assoc, List.map_append, hny.out]
          exact H8.out
        case measure => simp [intOf]; omega
    · obtain rfl : k = 7 := by omega
      obtain rfl : m = 64 := hm.out
      have hown := (HO.out.resolve_left (fun h => by have := h.1; omega)).2
      have HO := Lib.hid hown
      clear hown
      have e7 : ((7 : Nat) : Int) = 7 := rfl
      rw [e7]
      clear e7
      go_wp2_with fail
      refine (short_any (bodyL [cn, at_, lo, hi, pp, le, re]) _ _ _ _ (own_rd HO.out)).mono ?_
      rintro e w2 ⟨Ap, rfl, hp, hb2⟩
      have HO2 := Lib.hid (own_below HO.out hb2)
      have HP := Lib.hid hp
      have hs2 := hb2.size
      have hbr2 := hbr.trans (hb2.mono hsr)
      clear HO hp hb2
      go_wp2_with (at_builtin; refine wpList_append_rd rfl _ _ 28 rfl i0 (.int .u8 0) 1 Try.underlying28 hi0 hz0 hz1 hz2 rfl (by decide) rfl HO2.out rfl HP.out (oneCell_bytes _) (by unfold maxLen; omega) (by omega) (by omega) ?_)
      intro A8 c8 w8 hown8 hg8 hb8
      have H8 := Lib.hid (own_rd hown8)
      have hb9 := R10.out.trans ((hbr2.trans hb8).mono hz_x9)
      have HB9 := Lib.hid hb9
      clear hown8 hg8 hb8 hb9
      go_wp2
      go_returns
      exact ⟨A8, c8, rfl, by have := H8.out; rw [← List.map_append] at this; exact this, HB9.out⟩
set_option maxRecDepth 100000 in
set_option maxHeartbeats 4000000 in
theorem save_bad (cn at_ lo hi pp le re : Int) (w : World) (h0 : ¬ svE cn at_ lo hi pp le re = 0) :
    Calls Try.prog 21 #[.agg #[.int .i64 cn, .int .i64 at_, .int .i64 lo, .int .i64 hi, .int .i64 pp, .int .i64 le, .int .i64 re]] w fun e w' => e = .returned (.tuple #[.slice none 0 0, .int .i64 (svE cn at_ lo hi pp le re)]) ∧ Below w.heap.size w w' := by
  obtain ⟨er, her⟩ : ∃ er, svE cn at_ lo hi pp le re = er := ⟨_, rfl⟩
  rw [her] at h0 ⊢
  have HE := Lib.hid her
  have hne : (er != 0) = true := by simpa using h0
  clear her h0
  go_enter Try.func21, Try.ntmps21
  go_upto_region 1 with fail
  obtain ⟨x1, s_, ex1, es_⟩ : ∃ x1 s_, x1 = w.alloc (.cells #[.int .i64 cn, .int .i64 at_, .int .i64 lo, .int .i64 hi, .int .i64 pp, .int .i64 le, .int .i64 re] 41) ∧ s_ = w.heap.size := ⟨_, _, rfl, rfl⟩
  rw [← ex1, ← es_]
  have hbx : Below w.heap.size w x1 := by rw [ex1]; exact below_alloc1 _ _ 
  have g_S : w.heap.size ≤ s_ := by rw [es_]; exact Nat.le_refl _
  have BS := Lib.hid (show Blk x1 s_ 41 #[.int .i64 cn, .int .i64 at_, .int .i64 lo, .int .i64 hi, .int .i64 pp, .int .i64 le, .int .i64 re] by rw [ex1, es_]; exact blk_new1_0 _ _ _ )
  have R2 := Lib.hid hbx
  have hz_x1 := R2.out.size
  clear hbx ex1 es_
  have kS_0 : x1.cell? ⟨s_, 0, none⟩ = some (.int .i64 cn) := BS.out.cell 0
  have kS_1 : x1.cell? ⟨s_, 1, none⟩ = some (.int .i64 at_) := BS.out.cell 1
  have kS_2 : x1.cell? ⟨s_, 2, none⟩ = some (.int .i64 lo) := BS.out.cell 2
  have kS_3 : x1.cell? ⟨s_, 3, none⟩ = some (.int .i64 hi) := BS.out.cell 3
  have kS_4 : x1.cell? ⟨s_, 4, none⟩ = some (.int .i64 pp) := BS.out.cell 4
  have kS_5 : x1.cell? ⟨s_, 5, none⟩ = some (.int .i64 le) := BS.out.cell 5
  have kS_6 : x1.cell? ⟨s_, 6, none⟩ = some (.int .i64 re) := BS.out.cell 6
  go_wp2_with fail
  refine (savedV cn at_ lo hi pp le re _).mono ?_
  rintro e y3 ⟨rfl, hb⟩
  clear kS_0 kS_1 kS_2 kS_3 kS_4 kS_5 kS_6
  have hbx : Below x1.heap.size x1 y3 := below_via (by go_grown) hb (by first | (simp; done) | (simp; omega))
  have BS := Lib.hid (BS.out.stays hbx)
  have R4 := Lib.hid (R2.out.trans (hbx.mono hz_x1))
  have hz_y3 := R4.out.size
  clear hb hbx  R2 hz_x1
  rw [HE.out]
  go_wp2
  go_returns
  exact ⟨rfl, R4.out⟩
set_option maxRecDepth 100000 in
set_option maxHeartbeats 4000000 in
theorem refBody_any (cn at_ lo hi pp le re : Int) (w : World) :
    Calls Try.prog 31 #[.agg #[.int .i64 cn, .int .i64 at_, .int .i64 lo, .int .i64 hi, .int .i64 pp, .int .i64 le, .int .i64 re]] w fun e w' => ∃ A' c', e = .returned (.slice A' 64 c') ∧ Bytes w' A' 64 c' (bodyL [cn, at_, lo, hi, pp, le, re]) ∧ Below w.heap.size w w' := by
  obtain ⟨i0, hi0, hz0, hz1, hz2⟩ := info_parts infoByteA
  go_enter Try.func31, Try.ntmps31
  go_upto_region 1 with fail
  obtain ⟨x1, s_, ex1, es_⟩ : ∃ x1 s_, x1 = w.alloc (.cells #[.int .i64 cn, .int .i64 at_, .int .i64 lo, .int .i64 hi, .int .i64 pp, .int .i64 le, .int .i64 re] 41) ∧ s_ = w.heap.size := ⟨_, _, rfl, rfl⟩
  rw [← ex1, ← es_]
  have hbx : Below w.heap.size w x1 := by rw [ex1]; exact below_alloc1 _ _ 
  have g_S : w.heap.size ≤ s_ := by rw [es_]; exact Nat.le_refl _
  have BS := Lib.hid (show Blk x1 s_ 41 #[.int .i64 cn, .int .i64 at_, .int .i64 lo, .int .i64 hi, .int .i64 pp, .int .i64 le, .int .i64 re] by rw [ex1, es_]; exact blk_new1_0 _ _ _ )
  have R2 := Lib.hid hbx
  have hz_x1 := R2.out.size
  clear hbx ex1 es_
  have hcv := fun (W : World) => Lib.run_convert_bytes_const (P := Try.prog) W 28 5 #[.int .u8 115, .int .u8 101, .int .u8 99, .int .u8 116, .int .u8 105, .int .u8 109, .int .u8 101, .int .u8 49] 8 8 Try.underlying28 Try.underlying5
  go_upto_region 2 with fail
  clear hcv
  obtain ⟨x3, m_, ex3, em_⟩ : ∃ x3 m_, x3 = x1.alloc (.cells #[.int .u8 115, .int .u8 101, .int .u8 99, .int .u8 116, .int .u8 105, .int .u8 109, .int .u8 101, .int .u8 49] 5 (8, 9)) ∧ m_ = x1.heap.size := ⟨_, _, rfl, rfl⟩
  rw [← ex3, ← em_]
  have hbx : Below x1.heap.size x1 x3 := by rw [ex3]; exact below_alloc1 _ _
  have BS := Lib.hid (BS.out.stays hbx)
  have RM := Lib.hid (show Rd x3 1 (some ⟨m_, 0, none⟩) 8 8 (magicL.map byteV) by rw [ex3, em_]; exact rd_marked _ _ _)
  have g_M : w.heap.size ≤ m_ := by rw [em_]; exact hz_x1
  have mlt : m_ < x3.heap.size := by rw [ex3, em_]; simp
  have R4 := Lib.hid (R2.out.trans (hbx.mono hz_x1))
  have hz_x3 := R4.out.size
  clear hbx ex3 em_ R2 hz_x1
  have kS_0 : x3.cell? ⟨s_, 0, none⟩ = some (.int .i64 cn) := BS.out.cell 0
  have kS_1 : x3.cell? ⟨s_, 1, none⟩ = some (.int .i64 at_) := BS.out.cell 1
  have kS_2 : x3.cell? ⟨s_, 2, none⟩ = some (.int .i64 lo) := BS.out.cell 2
  have kS_3 : x3.cell? ⟨s_, 3, none⟩ = some (.int .i64 hi) := BS.out.cell 3
  have kS_4 : x3.cell? ⟨s_, 4, none⟩ = some (.int .i64 pp) := BS.out.cell 4
  have kS_5 : x3.cell? ⟨s_, 5, none⟩ = some (.int .i64 le) := BS.out.cell 5
  have kS_6 : x3.cell? ⟨s_, 6, none⟩ = some (.int .i64 re) := BS.out.cell 6
  go_upto_region 3 with fail
  clear kS_0 kS_1 kS_2 kS_3 kS_4 kS_5 kS_6
  obtain ⟨x5, n_, ex5, en_⟩ : ∃ x5 n_, x5 = x3.alloc (.cells #[.int .i64 cn, .int .i64 at_, .int .i64 lo, .int .i64 hi, .int .i64 pp, .int .i64 le, .int .i64 re] 3) ∧ n_ = x3.heap.size := ⟨_, _, rfl, rfl⟩
  rw [← ex5, ← en_]
  have hbx : Below x3.heap.size x3 x5 := by rw [ex5]; exact below_alloc1 _ _ 
  have o_S_N : s_ < n_ := by rw [en_]; exact BS.out.lt
  have g_N : w.heap.size ≤ n_ := by rw [en_]; exact hz_x3
  have BS := Lib.hid (BS.out.stays hbx)
  have RM := Lib.hid (RM.out.stays hbx)
  have BN := Lib.hid (show Blk x5 n_ 3 #[.int .i64 cn, .int .i64 at_, .int .i64 lo, .int .i64 hi, .int .i64 pp, .int .i64 le, .int .i64 re] by rw [ex5, en_]; exact blk_new1_0 _ _ _ )
  have R6 := Lib.hid (R4.out.trans (hbx.mono hz_x3))
  have hz_x5 := R6.out.size
  clear hbx ex5 en_ R4 hz_x3
  go_wp2_with fail
  go_loopw [3, 5] (fun out i wr => ∃ (k m cc : Nat) (AA : Option Addr), k ≤ 7 ∧ i = .int .i64 k ∧ out = .slice AA m cc ∧ Hid (m = 8 + 8 * k) ∧ ((k = 0 ∧ cc = 8 ∧ AA = some ⟨m_, 0, none⟩ ∧ Rd wr 1 AA 8 8 (magicL.map byteV)) ∨ (0 < k ∧ wr.ownsRow x5.heap.size 5 1 (.slice AA m cc) m ((magicL ++ ([cn, at_, lo, hi, pp, le, re].take k).flatMap num8).map byteV))) ∧ Below x5.heap.size x5 wr) (fun _ i _ => 7 - (intOf i).toNat)
  case atStart =>
    exact ⟨0, 8, _, _, by omega, rfl, rfl, rfl, .inl ⟨rfl, rfl, rfl, RM.out⟩, Below.refl _ _⟩
  case round =>
    clear RM
    obtain ⟨k, m, cc, AA, hk, rfl, rfl, hm, hown, hbr⟩ := hrel
    have HO := Lib.hid hown
    have hsr := hbr.size
    clear hown
    by_cases hk7 : k < 7
    · obtain ⟨x, hx, hc⟩ : ∃ x : Int, Hid ([cn, at_, lo, hi, pp, le, re][k]? = some x) ∧ wr.cell? ⟨n_, k, none⟩ = some (.int .i64 x) := by
        have hcc := (BN.out.stays hbr).cell k
        match k, hk7 with
        | 0, _ => exact ⟨cn, rfl, hcc⟩
        | 1, _ => exact ⟨at_, rfl, hcc⟩
        | 2, _ => exact ⟨lo, rfl, hcc⟩
        | 3, _ => exact ⟨hi, rfl, hcc⟩
        | 4, _ => exact ⟨pp, rfl, hcc⟩
        | 5, _ => exact ⟨le, rfl, hcc⟩
        | 6, _ => exact ⟨re, rfl, hcc⟩
      obtain ⟨y, hy⟩ : ∃ y, (x % 18446744073709551616).toNat = y := ⟨_, rfl⟩
      have wy : IntKind.u64.wrap x = (y : Int) := by rw [wrap_u64, hy]
      have hny : Hid (num8 x = putL y 8) := by unfold Hid num8; rw [hy]
      clear hy
      have hki : (k : Int) < 7 := by omega
      rcases HO.out with ⟨rfl, rfl, rfl, hrd⟩ | ⟨hk0, hown⟩
      · skip
        obtain rfl : m = 8 := by have := hm.out; omega
        have HO1 := Lib.hid hrd
        clear hrd HO
        go_wp2_with fail
        refine (refPut_reads y 8 (by decide) _).mono ?_
        rintro e w2 ⟨Ap, cp, rfl, hp, hb2⟩
        have HO2 := Lib.hid (HO1.out.stays hb2)
        have HP := Lib.hid hp
        have hs2 := hb2.size
        have hbr2 := hbr.trans (hb2.mono hsr)
        clear HO1 hp hb2
        skip
        go_wp2_with (at_builtin; refine wpList_append_full rfl _ _ 28 rfl i0 (.int .u8 0) 1 Try.underlying28 hi0 hz0 hz1 hz2 rfl rfl HO2.out rfl HP.out (by decide) (oneCell_bytes _) (by decide) (by decide) (by decide) ?_)
        intro A8 c8 w8 hown8 hb8
        have H8 := Lib.hid (own_more hown8 (show x5.heap.size ≤ w2.heap.size by omega))
        have hb9 := Lib.hid (hbr2.trans (hb8.mono (by omega)))
        clear hown8 hb8
        go_wp2
        go_roundw
        case rel =>
          refine ⟨0 + 1, 8 + 8, _, _, by omega, by go_num, rfl, by have := hm.out; unfold Hid; omega, .inr ⟨by omega, ?_⟩, hb9.out⟩
          rw [take_next _ 0 x hx.out, ← List.append_assoc, List.map_append, hny.out]
          simpa using H8.out
        case measure => simp [intOf]
      · skip
        have hq1 := (own_rd hown).2.1
        have hq2 : cc ≤ 9223372036854775807 := by have := (own_rd hown).2.2.1; unfold maxLen at this; omega
        have HO1 := Lib.hid hown
        clear hown HO
        go_wp2_with fail
        refine (refPut_reads y 8 (by decide) _).mono ?_
        rintro e w2 ⟨Ap, cp, rfl, hp, hb2⟩
        have HO2 := Lib.hid (own_below HO1.out hb2)
        have HP := Lib.hid hp
        have hs2 := hb2.size
        have hbr2 := hbr.trans (hb2.mono hsr)
        clear HO1 hp hb2
        have hm100 : m ≤ 100 := by have := hm.out; omega
        go_wp2_with (at_builtin; refine wpList_append_rd rfl _ _ 28 rfl i0 (.int .u8 0) 1 Try.underlying28 hi0 hz0 hz1 hz2 rfl (by decide) rfl HO2.out rfl HP.out (oneCell_bytes _) (by unfold maxLen; omega) (by omega) (by omega) ?_)
        intro A8 c8 w8 hown8 hg8 hb8
        have H8 := Lib.hid hown8
        have hb9 := Lib.hid (hbr2.trans hb8)
        clear hown8 hg8 hb8
        go_wp2
        go_roundw
        case rel =>
          refine ⟨k + 1, m + 8, _, _, by omega, by go_num, rfl, by have := hm.out; unfold Hid; omega, .inr ⟨by omega, ?_⟩, hb9.out⟩
          rw [take_next _ k x hx.out, ← List.append_assoc, List.map_append, hny.out]
          exact H8.out
        case measure => simp [intOf]; omega
    · obtain rfl : k = 7 := by omega
      obtain rfl : m = 64 := hm.out
      have hown := (HO.out.resolve_left (fun h => by have := h.1; omega)).2
      have HO := Lib.hid hown
      clear hown
      have e7 : ((7 : Nat) : Int) = 7 := rfl
      rw [e7]
      clear e7
      have H8 := Lib.hid (own_rd HO.out)
      have HB9 := Lib.hid (R6.out.trans (hbr.mono hz_x5))
      clear HO hbr
      go_wp2
      go_returns
      exact ⟨AA, cc, rfl, H8.out, HB9.out⟩
set_option maxRecDepth 100000 in
set_option maxHeartbeats 4000000 in
theorem refSave_ok (cn at_ lo hi pp le re : Int) (w : World) (h0 : svE cn at_ lo hi pp le re = 0) :
    Calls Try.prog 22 #[.agg #[.int .i64 cn, .int .i64 at_, .int .i64 lo, .int .i64 hi, .int .i64 pp, .int .i64 le, .int .i64 re]] w fun e w' => ∃ A' c', e = .returned (.tuple #[.slice A' 80 c', .int .i64 0]) ∧ Bytes w' A' 80 c' (saveL [cn, at_, lo, hi, pp, le, re]) ∧ Below w.heap.size w w' := by
  have HE := Lib.hid h0
  clear h0
  go_enter Try.func22, Try.ntmps22
  go_upto_region 1 with fail
  obtain ⟨x1, s_, ex1, es_⟩ : ∃ x1 s_, x1 = w.alloc (.cells #[.int .i64 cn, .int .i64 at_, .int .i64 lo, .int .i64 hi, .int .i64 pp, .int .i64 le, .int .i64 re] 41) ∧ s_ = w.heap.size := ⟨_, _, rfl, rfl⟩
  rw [← ex1, ← es_]
  have hbx : Below w.heap.size w x1 := by rw [ex1]; exact below_alloc1 _ _ 
  have g_S : w.heap.size ≤ s_ := by rw [es_]; exact Nat.le_refl _
  have BS := Lib.hid (show Blk x1 s_ 41 #[.int .i64 cn, .int .i64 at_, .int .i64 lo, .int .i64 hi, .int .i64 pp, .int .i64 le, .int .i64 re] by rw [ex1, es_]; exact blk_new1_0 _ _ _ )
  have R2 := Lib.hid hbx
  have hz_x1 := R2.out.size
  clear hbx ex1 es_
  have kS_0 : x1.cell? ⟨s_, 0, none⟩ = some (.int .i64 cn) := BS.out.cell 0
  have kS_1 : x1.cell? ⟨s_, 1, none⟩ = some (.int .i64 at_) := BS.out.cell 1
  have kS_2 : x1.cell? ⟨s_, 2, none⟩ = some (.int .i64 lo) := BS.out.cell 2
  have kS_3 : x1.cell? ⟨s_, 3, none⟩ = some (.int .i64 hi) := BS.out.cell 3
  have kS_4 : x1.cell? ⟨s_, 4, none⟩ = some (.int .i64 pp) := BS.out.cell 4
  have kS_5 : x1.cell? ⟨s_, 5, none⟩ = some (.int .i64 le) := BS.out.cell 5
  have kS_6 : x1.cell? ⟨s_, 6, none⟩ = some (.int .i64 re) := BS.out.cell 6
  go_wp2_with fail
  refine (refSavedV cn at_ lo hi pp le re _).mono ?_
  rintro e y3 ⟨rfl, hb⟩
  clear kS_0 kS_1 kS_2 kS_3 kS_4 kS_5 kS_6
  have hbx : Below x1.heap.size x1 y3 := below_via (by go_grown) hb (by first | (simp; done) | (simp; omega))
  have BS := Lib.hid (BS.out.stays hbx)
  have R4 := Lib.hid (R2.out.trans (hbx.mono hz_x1))
  have hz_y3 := R4.out.size
  clear hb hbx  R2 hz_x1
  rw [HE.out]
  have kS_0 : y3.cell? ⟨s_, 0, none⟩ = some (.int .i64 cn) := BS.out.cell 0
  have kS_1 : y3.cell? ⟨s_, 1, none⟩ = some (.int .i64 at_) := BS.out.cell 1
  have kS_2 : y3.cell? ⟨s_, 2, none⟩ = some (.int .i64 lo) := BS.out.cell 2
  have kS_3 : y3.cell? ⟨s_, 3, none⟩ = some (.int .i64 hi) := BS.out.cell 3
  have kS_4 : y3.cell? ⟨s_, 4, none⟩ = some (.int .i64 pp) := BS.out.cell 4
  have kS_5 : y3.cell? ⟨s_, 5, none⟩ = some (.int .i64 le) := BS.out.cell 5
  have kS_6 : y3.cell? ⟨s_, 6, none⟩ = some (.int .i64 re) := BS.out.cell 6
  go_wp2_with fail
  refine (refBody_any cn at_ lo hi pp le re _).mono ?_
  rintro e y5 ⟨A1, c1, rfl, hv, hb⟩
  clear kS_0 kS_1 kS_2 kS_3 kS_4 kS_5 kS_6
  have hbx : Below y3.heap.size y3 y5 := below_via (by go_grown) hb (by first | (simp; done) | (simp; omega))
  have BS := Lib.hid (BS.out.stays hbx)
  have V := Lib.hid hv
  have R6 := Lib.hid (R4.out.trans (hbx.mono hz_y3))
  have hz_y5 := R6.out.size
  clear hb hbx hv R4 hz_y3
  have v1 := V.out.le
  have v2 := V.out.cap
  go_wp2_with fail
  refine (refShort_any (bodyL [cn, at_, lo, hi, pp, le, re]) _ _ _ _ V.out).mono ?_
  rintro e y7 ⟨A2, c2, rfl, hs, hb⟩
  have hbx : Below y5.heap.size y5 y7 := below_via (by go_grown) hb (by first | (simp; done) | (simp; omega))
  have BS := Lib.hid (BS.out.stays hbx)
  have V := Lib.hid (V.out.stays hbx)
  have SH := Lib.hid hs
  have R8 := Lib.hid (R6.out.trans (hbx.mono hz_y5))
  have hz_y7 := R8.out.size
  clear hb hbx hs R6 hz_y5
  have v3 := SH.out.le
  have v4 := SH.out.cap
  go_wp2_with fail
  refine (refJoin_any _ _ _ [_, _] _ (lists_made2 V.out SH.out) 80 (by rw [List.flatten_cons, List.flatten_cons, List.flatten_nil, List.append_nil, List.length_append, V.out.len, SH.out.len]) (by decide)).mono ?_
  rintro e w9 ⟨A9, c9, rfl, hv, hb⟩
  have hbx : Below y7.heap.size y7 w9 := below_via (by go_grown) hb (by first | (simp; done) | (simp; omega))
  have HB9 := Lib.hid (R8.out.trans (hbx.mono hz_y7))
  have VJ := Lib.hid (show Bytes w9 A9 80 c9 (saveL [cn, at_, lo, hi, pp, le, re]) from by have := own_rd hv; simpa [Bytes, saveL] using this)
  clear hb hbx hv
  go_wp2
  go_returns
  exact ⟨A9, c9, rfl, VJ.out, HB9.out⟩
set_option maxRecDepth 100000 in
set_option maxHeartbeats 4000000 in
theorem refSave_bad (cn at_ lo hi pp le re : Int) (w : World) (h0 : ¬ svE cn at_ lo hi pp le re = 0) :
    Calls Try.prog 22 #[.agg #[.int .i64 cn, .int .i64 at_, .int .i64 lo, .int .i64 hi, .int .i64 pp, .int .i64 le, .int .i64 re]] w fun e w' => e = .returned (.tuple #[.slice none 0 0, .int .i64 (svE cn at_ lo hi pp le re)]) ∧ Below w.heap.size w w' := by
  obtain ⟨er, her⟩ : ∃ er, svE cn at_ lo hi pp le re = er := ⟨_, rfl⟩
  rw [her] at h0 ⊢
  have HE := Lib.hid her
  have hne : (er != 0) = true := by simpa using h0
  clear her h0
  go_enter Try.func22, Try.ntmps22
  go_upto_region 1 with fail
  obtain ⟨x1, s_, ex1, es_⟩ : ∃ x1 s_, x1 = w.alloc (.cells #[.int .i64 cn, .int .i64 at_, .int .i64 lo, .int .i64 hi, .int .i64 pp, .int .i64 le, .int .i64 re] 41) ∧ s_ = w.heap.size := ⟨_, _, rfl, rfl⟩
  rw [← ex1, ← es_]
  have hbx : Below w.heap.size w x1 := by rw [ex1]; exact below_alloc1 _ _ 
  have g_S : w.heap.size ≤ s_ := by rw [es_]; exact Nat.le_refl _
  have BS := Lib.hid (show Blk x1 s_ 41 #[.int .i64 cn, .int .i64 at_, .int .i64 lo, .int .i64 hi, .int .i64 pp, .int .i64 le, .int .i64 re] by rw [ex1, es_]; exact blk_new1_0 _ _ _ )
  have R2 := Lib.hid hbx
  have hz_x1 := R2.out.size
  clear hbx ex1 es_
  have kS_0 : x1.cell? ⟨s_, 0, none⟩ = some (.int .i64 cn) := BS.out.cell 0
  have kS_1 : x1.cell? ⟨s_, 1, none⟩ = some (.int .i64 at_) := BS.out.cell 1
  have kS_2 : x1.cell? ⟨s_, 2, none⟩ = some (.int .i64 lo) := BS.out.cell 2
  have kS_3 : x1.cell? ⟨s_, 3, none⟩ = some (.int .i64 hi) := BS.out.cell 3
  have kS_4 : x1.cell? ⟨s_, 4, none⟩ = some (.int .i64 pp) := BS.out.cell 4
  have kS_5 : x1.cell? ⟨s_, 5, none⟩ = some (.int .i64 le) := BS.out.cell 5
  have kS_6 : x1.cell? ⟨s_, 6, none⟩ = some (.int .i64 re) := BS.out.cell 6
  go_wp2_with fail
  refine (refSavedV cn at_ lo hi pp le re _).mono ?_
  rintro e y3 ⟨rfl, hb⟩
  clear kS_0 kS_1 kS_2 kS_3 kS_4 kS_5 kS_6
  have hbx : Below x1.heap.size x1 y3 := below_via (by go_grown) hb (by first | (simp; done) | (simp; omega))
  have BS := Lib.hid (BS.out.stays hbx)
  have R4 := Lib.hid (R2.out.trans (hbx.mono hz_x1))
  have hz_y3 := R4.out.size
  clear hb hbx  R2 hz_x1
  rw [HE.out]
  go_wp2
  go_returns
  exact ⟨rfl, R4.out⟩
end Go.Proofs.Ytbjmojajhkhekaa
