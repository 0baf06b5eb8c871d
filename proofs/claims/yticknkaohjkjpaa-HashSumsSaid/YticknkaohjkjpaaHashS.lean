/- HashSums: the walk. -/
import Derived.Test.YticknkaohjkjpaaHashK
namespace Go.Proofs.Yticknkaohjkjpaa
open Go.RowKit

set_option maxRecDepth 100000 in
set_option maxHeartbeats 8000000 in
theorem hashSums_walk (A : Option Addr) (n c : Nat) (l : List UInt8) (k : Int) (w : World) (h : Bytes w A n c l) :
    Calls Try.prog 5 #[.slice A n c, .int .i64 k] w fun e w' => e = .returned (.bool true) ∧ Below w.heap.size w w' := by
  have n1 := h.le
  have n2 := h.cap
  by_cases hn : 300 < n
  · have hni : (n : Int) > 300 := by omega
    clear h
    go_enter Try.func5, Try.ntmps5
    go_wp2_with fail
    refine (hashKnown _).mono ?_
    rintro e w1 ⟨rfl, hb⟩
    go_wp2
    go_ret
    exact ⟨rfl, hb⟩
  have hni : ¬ (n : Int) > 300 := by omega
  by_cases hk : k > 40
  all_goals
    have B00 := Lib.hid h
    clear h
    go_enter Try.func5, Try.ntmps5
    have h := B00.out
    clear B00
    have B0 := Lib.hid (show Bytes w A n c l from h)
    go_wp2_with fail
    refine (hashKnown _).mono ?_
    rintro e w1 ⟨rfl, hb⟩
    have hbx : Below w.heap.size w w1 := below_via (by go_grown) hb (by simp)
    have B0 := Lib.hid (B0.out.stays hbx)
    have R1 := Lib.hid hbx
    have hs1 := R1.out.size
    clear hb hbx 
    go_wp2_with fail
    refine (sum_any _ _ _ _ _ B0.out).mono ?_
    rintro e w2 ⟨A1, c1, rfl, hv, hb⟩
    have hbx : Below w1.heap.size w1 w2 := below_via (by go_grown) hb (by simp)
    have B0 := Lib.hid (B0.out.stays hbx)
    have V1 := Lib.hid (show Bytes _ _ _ _ _ from own_rd hv)
    have R2 := Lib.hid (R1.out.trans (hbx.mono hs1))
    have hs2 := R2.out.size
    clear hb hbx 
    clear R1
    go_wp2_with fail
    refine (refSum_any _ _ _ _ _ B0.out).mono ?_
    rintro e w3 ⟨A2, c2, rfl, hv2, hb⟩
    have hbx : Below w2.heap.size w2 w3 := below_via (by go_grown) hb (by simp)
    have B0 := Lib.hid (B0.out.stays hbx)
    have V1 := Lib.hid (V1.out.stays hbx)
    have V2 := Lib.hid (show Bytes _ _ _ _ _ from own_rd hv2)
    have R3 := Lib.hid (R2.out.trans (hbx.mono hs2))
    have hs3 := R3.out.size
    clear hb hbx 
    clear R2
    go_wp2_with fail
    refine (refSame_true V1.out V2.out rfl).mono ?_
    rintro e w4 ⟨rfl, rfl⟩
    clear V1 V2
    go_wp2_with fail
    refine (short_any _ _ _ _ _ B0.out).mono ?_
    rintro e w4 ⟨A3, rfl, hv, hb⟩
    have hbx : Below w3.heap.size w3 w4 := below_via (by go_grown) hb (by simp)
    have B0 := Lib.hid (B0.out.stays hbx)
    have V1 := Lib.hid hv
    have R4 := Lib.hid (R3.out.trans (hbx.mono hs3))
    have hs4 := R4.out.size
    clear hb hbx hv
    clear R3
    go_wp2_with fail
    refine (refShort_any _ _ _ _ _ B0.out).mono ?_
    rintro e w5 ⟨A4, c4, rfl, hv2, hb⟩
    have hbx : Below w4.heap.size w4 w5 := below_via (by go_grown) hb (by simp)
    have B0 := Lib.hid (B0.out.stays hbx)
    have V1 := Lib.hid (V1.out.stays hbx)
    have V2 := Lib.hid hv2
    have R5 := Lib.hid (R4.out.trans (hbx.mono hs4))
    have hs5 := R5.out.size
    clear hb hbx hv2
    clear R4
    go_wp2_with fail
    refine (refSame_true V1.out V2.out rfl).mono ?_
    rintro e w6 ⟨rfl, rfl⟩
    clear V1 V2
    go_wp2_with fail
    refine (chain_any _ _ _ _ _ _ B0.out (by omega)).mono ?_
    rintro e w6 ⟨A5, m5, c5, rfl, hv, hb⟩
    have hbx : Below w5.heap.size w5 w6 := below_via (by go_grown) hb (by simp)
    have B0 := Lib.hid (B0.out.stays hbx)
    have V1 := Lib.hid hv
    have R6 := Lib.hid (R5.out.trans (hbx.mono hs5))
    have hs6 := R6.out.size
    clear hb hbx hv
    clear R5
    go_wp2_with fail
    refine (refChain_any _ _ _ _ _ _ B0.out (by omega)).mono ?_
    rintro e w7 ⟨A6, m6, c6, rfl, hv2, hb⟩
    have hbx : Below w6.heap.size w6 w7 := below_via (by go_grown) hb (by simp)
    have B0 := Lib.hid (B0.out.stays hbx)
    have V1 := Lib.hid (V1.out.stays hbx)
    have V2 := Lib.hid hv2
    have R7 := Lib.hid (R6.out.trans (hbx.mono hs6))
    have hs7 := R7.out.size
    clear hb hbx hv2
    clear R6
    go_wp2_with fail
    refine (refSame_true V1.out V2.out rfl).mono ?_
    rintro e w8 ⟨rfl, rfl⟩
    go_wp2
    go_ret
    exact ⟨rfl, R7.out⟩
end Go.Proofs.Yticknkaohjkjpaa
