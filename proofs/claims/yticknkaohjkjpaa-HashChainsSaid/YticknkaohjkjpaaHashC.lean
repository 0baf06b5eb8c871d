/- HashChains: the walk. -/
import Derived.Test.YticknkaohjkjpaaHashK
import Derived.Test.YticknkaohjkjpaaWithW
namespace Go.Proofs.Yticknkaohjkjpaa
open Go.RowKit

theorem chainL_len (b : List UInt8) (n : Nat) : (chainL b n).length ≤ max 16 b.length := by
  rcases Nat.eq_zero_or_pos n with h | h
  · subst h; exact Nat.le_max_right _ _
  · rw [chainL_length b n h]; exact Nat.le_max_left _ _
set_option maxRecDepth 100000 in
set_option maxHeartbeats 8000000 in
theorem hashChains_walk (A : Option Addr) (n c : Nat) (l : List UInt8) (k m : Int) (w : World) (h : Bytes w A n c l) :
    Calls Try.prog 6 #[.slice A n c, .int .i64 k, .int .i64 m] w fun e w' => e = .returned (.bool true) ∧ Below w.heap.size w w' := by
  have n1 := h.le
  have n2 := h.cap
  by_cases hn : 60 < n
  · have hni : (n : Int) > 60 := by omega
    clear h
    go_enter Try.func6, Try.ntmps6
    go_wp2_with fail
    refine (hashKnown _).mono ?_
    rintro e w1 ⟨rfl, hb⟩
    go_wp2
    go_ret
    exact ⟨rfl, hb⟩
  have hni : ¬ (n : Int) > 60 := by omega
  have B0 := Lib.hid h
  clear h
  go_enter Try.func6, Try.ntmps6
  go_wp2_with fail
  refine (within_any k 20 (by decide) (by decide) _).mono ?_
  rintro e w1 ⟨rfl, rfl⟩
  go_wp2_with fail
  refine (within_any m 20 (by decide) (by decide) _).mono ?_
  rintro e w1 ⟨rfl, rfl⟩
  obtain ⟨x, hx, hx20⟩ : ∃ x : Nat, k % 20 = (x : Int) ∧ x < 20 := ⟨(k % 20).toNat, by omega, by omega⟩
  obtain ⟨y, hy, hy20⟩ : ∃ y : Nat, m % 20 = (y : Int) ∧ y < 20 := ⟨(m % 20).toNat, by omega, by omega⟩
  rw [hx, hy]
  clear hx hy
  go_wp2_with fail
  refine (hashKnown _).mono ?_
  rintro e w1 ⟨rfl, hb⟩
  have hbx : Below w.heap.size w w1 := below_via (by go_grown) hb (by simp)
  have B0 := Lib.hid (B0.out.stays hbx)
  have R1 := Lib.hid hbx
  have hs1 := R1.out.size
  clear hb hbx 
  go_wp2_with fail
  refine (chain_any _ _ _ _ _ _ B0.out (by omega)).mono ?_
  rintro e w2 ⟨A1, m1, c1, rfl, hv, hb⟩
  have hbx : Below w1.heap.size w1 w2 := below_via (by go_grown) hb (by simp)
  have B0 := Lib.hid (B0.out.stays hbx)
  have V1 := Lib.hid hv
  have R2 := Lib.hid (R1.out.trans (hbx.mono hs1))
  have hs2 := R2.out.size
  clear hb hbx hv
  clear R1
  have hm1 : m1 ≤ 100 := by rw [← V1.out.len, show min ((x : Int)).toNat 65536 = x by omega]; exact Nat.le_trans (chainL_len _ _) (by have := B0.out.len; omega)
  go_wp2_with fail
  refine (chain_any _ _ _ _ _ _ V1.out (by omega)).mono ?_
  rintro e w3 ⟨A2, m2, c2, rfl, hv2, hb⟩
  have hbx : Below w2.heap.size w2 w3 := below_via (by go_grown) hb (by simp)
  have B0 := Lib.hid (B0.out.stays hbx)
  have V1 := Lib.hid (V1.out.stays hbx)
  have V2 := Lib.hid hv2
  have R3 := Lib.hid (R2.out.trans (hbx.mono hs2))
  have hs3 := R3.out.size
  clear hb hbx hv2
  clear R2
  go_wp2_with fail
  refine (chain_any _ _ _ _ _ _ B0.out (by omega)).mono ?_
  rintro e w4 ⟨A3, m3, c3, rfl, hv3, hb⟩
  have hbx : Below w3.heap.size w3 w4 := below_via (by go_grown) hb (by simp)
  have B0 := Lib.hid (B0.out.stays hbx)
  have V1 := Lib.hid (V1.out.stays hbx)
  have V2 := Lib.hid (V2.out.stays hbx)
  have V3 := Lib.hid hv3
  have R4 := Lib.hid (R3.out.trans (hbx.mono hs3))
  have hs4 := R4.out.size
  clear hb hbx hv3
  clear R3
  have hq1 : chainL (chainL l (min ((x : Int)).toNat 65536)) (min ((y : Int)).toNat 65536) = chainL l (min ((x : Int) + (y : Int)).toNat 65536) := by rw [chainL_add]; congr 1; omega
  go_wp2_with fail
  refine (refSame_true V2.out V3.out hq1).mono ?_
  rintro e w5 ⟨rfl, rfl⟩
  clear V1 V2 V3
  clear hq1 hm1
  go_wp2_with fail
  refine (chain_any _ _ _ _ _ _ B0.out (by omega)).mono ?_
  rintro e w5 ⟨A4, m4, c4, rfl, hv, hb⟩
  have hbx : Below w4.heap.size w4 w5 := below_via (by go_grown) hb (by simp)
  have B0 := Lib.hid (B0.out.stays hbx)
  have V1 := Lib.hid hv
  have R5 := Lib.hid (R4.out.trans (hbx.mono hs4))
  have hs5 := R5.out.size
  clear hb hbx hv
  clear R4
  go_wp2_with fail
  refine (short_any _ _ _ _ _ B0.out).mono ?_
  rintro e w6 ⟨A5, rfl, hv2, hb⟩
  have hbx : Below w5.heap.size w5 w6 := below_via (by go_grown) hb (by simp)
  have B0 := Lib.hid (B0.out.stays hbx)
  have V1 := Lib.hid (V1.out.stays hbx)
  have V2 := Lib.hid hv2
  have R6 := Lib.hid (R5.out.trans (hbx.mono hs5))
  have hs6 := R6.out.size
  clear hb hbx hv2
  clear R5
  go_wp2_with fail
  refine (refSame_true V1.out V2.out rfl).mono ?_
  rintro e w7 ⟨rfl, rfl⟩
  clear V1 V2
  go_wp2_with fail
  refine (chain_any _ _ _ _ _ _ B0.out (by omega)).mono ?_
  rintro e w7 ⟨A6, m6, c6, rfl, hv, hb⟩
  have hbx : Below w6.heap.size w6 w7 := below_via (by go_grown) hb (by simp)
  have B0 := Lib.hid (B0.out.stays hbx)
  have V1 := Lib.hid hv
  have R7 := Lib.hid (R6.out.trans (hbx.mono hs6))
  have hs7 := R7.out.size
  clear hb hbx hv
  clear R6
  go_wp2_with fail
  refine (refSame_true V1.out B0.out rfl).mono ?_
  rintro e w8 ⟨rfl, rfl⟩
  clear V1
  go_wp2_with fail
  refine (sum_any _ _ _ _ _ B0.out).mono ?_
  rintro e w8 ⟨A7, c7, rfl, hv, hb⟩
  have hbx : Below w7.heap.size w7 w8 := below_via (by go_grown) hb (by simp)
  have B0 := Lib.hid (B0.out.stays hbx)
  have R8 := Lib.hid (R7.out.trans (hbx.mono hs7))
  have hs8 := R8.out.size
  clear hb hbx 
  clear R7
  clear hv
  go_wp2_with fail
  refine (short_any _ _ _ _ _ B0.out).mono ?_
  rintro e w9 ⟨A8, rfl, hv, hb⟩
  have hbx : Below w8.heap.size w8 w9 := below_via (by go_grown) hb (by simp)
  have B0 := Lib.hid (B0.out.stays hbx)
  have V1 := Lib.hid hv
  have R9 := Lib.hid (R8.out.trans (hbx.mono hs8))
  have hs9 := R9.out.size
  clear hb hbx hv
  clear R8
  go_wp2_with fail
  refine (refSum_any _ _ _ _ _ B0.out).mono ?_
  rintro e w10 ⟨A9, c9, rfl, hv2, hb⟩
  have hbx : Below w9.heap.size w9 w10 := below_via (by go_grown) hb (by simp)
  have B0 := Lib.hid (B0.out.stays hbx)
  have V1 := Lib.hid (V1.out.stays hbx)
  have V2 := Lib.hid (show Bytes _ _ _ _ _ from own_rd hv2)
  have R10 := Lib.hid (R9.out.trans (hbx.mono hs9))
  have hs10 := R10.out.size
  clear hb hbx 
  clear R9
  have q1 := V2.out.le
  have q2 := V2.out.cap
  have hcut := V2.out.cut 0 16 (by omega) (by omega)
  rw [if_neg (by omega)] at hcut
  simp only [add_off, Nat.add_zero, Nat.sub_zero, List.drop_zero] at hcut
  obtain ⟨b, off, rfl, _⟩ := V2.out.at_ (i := 0) (by omega)
  simp only [Option.map_some, add_off, Nat.add_zero] at hcut
  have V3 := Lib.hid hcut
  clear hcut hv2
  go_wp2_with fail
  refine (refSame_true V1.out V3.out rfl).mono ?_
  rintro e w11 ⟨rfl, rfl⟩
  go_wp2
  go_ret
  exact ⟨rfl, R10.out⟩
end Go.Proofs.Yticknkaohjkjpaa
