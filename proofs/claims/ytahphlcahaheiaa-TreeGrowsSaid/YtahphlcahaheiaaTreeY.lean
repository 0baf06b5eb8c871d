/- TreeGrowsTwice: the walk. -/
import Derived.Test.YtahphlcahaheiaaTreeX
import Derived.Test.YtahphlcahaheiaaTreeK
import Derived.Test.YtahphlcahaheiaaTreeQ
namespace Go.Proofs.Ytahphlcahaheiaa
open Go.RowKit

theorem grow_true (M : List (List UInt8)) (m N : Nat) (hN : M.length = N) (h1 : 1 ≤ m) (h2 : m ≤ N) : growB (rootL ((M.take m).map leafL)) m (rootL (M.map leafL)) N (proofL (M.map leafL) m true) = true := by
  have := grown_proof (M.map leafL) m true (rootL ((M.take m).map leafL)) [] h1 (by rw [List.length_map]; omega) (fun _ => by rw [List.map_take])
  rw [List.append_nil, List.length_map, hN] at this
  rw [growB_some this, List.map_take]
  simp
set_option maxRecDepth 100000 in
set_option maxHeartbeats 4000000 in
theorem treeGrowsTwice_walk (s a b c : Int) (w : World) :
    Calls Try.prog 14 #[.int .i64 s, .int .i64 a, .int .i64 b, .int .i64 c] w fun e w' => e = .returned (.bool true) ∧ Below w.heap.size w w' := by
  obtain ⟨x, hx, hx2⟩ : ∃ x : Nat, s % 1000 = (x : Int) ∧ x < 1000 := ⟨(s % 1000).toNat, by omega, by omega⟩
  have Hx := Lib.hid hx
  clear hx
  obtain ⟨y, hy, hy2⟩ : ∃ y : Nat, a % 8 = (y : Int) ∧ y < 8 := ⟨(a % 8).toNat, by omega, by omega⟩
  have Hy := Lib.hid hy
  clear hy
  obtain ⟨z, hz, hz2⟩ : ∃ z : Nat, b % 8 = (z : Int) ∧ z < 8 := ⟨(b % 8).toNat, by omega, by omega⟩
  have Hz := Lib.hid hz
  clear hz
  obtain ⟨u, hu, hu2⟩ : ∃ u : Nat, c % 8 = (u : Int) ∧ u < 8 := ⟨(c % 8).toNat, by omega, by omega⟩
  have Hu := Lib.hid hu
  clear hu
  go_enter Try.func14, Try.ntmps14
  go_wp2_with fail
  refine (within_any a 8 (by decide) (by decide) _).mono ?_
  rintro e w1 ⟨rfl, rfl⟩
  rw [Hy.out]
  obtain ⟨M1, hM1⟩ : ∃ M1 : Nat, (1 : Int) + (y : Int) = (M1 : Int) := ⟨1 + y, by omega⟩
  have m11 : 1 ≤ M1 := by omega
  have m12 : M1 ≤ 8 := by omega
  go_wp2_with fail
  refine (within_any b 8 (by decide) (by decide) _).mono ?_
  rintro e w1 ⟨rfl, rfl⟩
  rw [Hz.out]
  obtain ⟨M2, hM2⟩ : ∃ M2 : Nat, (M1 : Int) + (z : Int) = (M2 : Int) := ⟨M1 + z, by omega⟩
  have m21 : M1 ≤ M2 := by omega
  have m22 : M2 ≤ 16 := by omega
  go_wp2_with fail
  refine (within_any c 8 (by decide) (by decide) _).mono ?_
  rintro e w1 ⟨rfl, rfl⟩
  rw [Hu.out]
  obtain ⟨N, hN⟩ : ∃ N : Nat, (M2 : Int) + (u : Int) = (N : Int) := ⟨M2 + u, by omega⟩
  have n1 : M2 ≤ N := by omega
  have n2 : N ≤ 24 := by omega
  go_wp2_with fail
  clear hM1 hM2 hN
  refine (leaves_any s x N _ Hx.out (by omega)).mono ?_
  rintro e w1 ⟨AL, cL, rfl, hv, hb⟩
  have hbx : Below w.heap.size w w1 := below_via (by go_grown) hb (by first | (simp; done) | (simp; omega))
  have LB := Lib.hid hv.lists
  have R1 := Lib.hid hbx
  have hs1 := R1.out.size
  clear hb hbx 
  clear hv
  have l1 := LB.out.le
  have l2 := LB.out.cap
  have HF := Lib.hid (leavesL_few x N)
  have HLn := Lib.hid (leavesL_length x N)
  generalize leavesL x N = L at *
  have i1 : (M1 : Int) ≤ (cL : Int) := by omega
  have i2 : (M2 : Int) ≤ (cL : Int) := by omega
  have i3 : (0 : Int) ≤ (M1 : Int) := by omega
  have i4 : (0 : Int) ≤ (M2 : Int) := by omega
  have HT2 : Hid ((L.take M2).length = M2) := by unfold Hid; rw [List.length_take, HLn.out]; omega
  have G1 : Hid (growB (rootL ((L.take M1).map leafL)) M1 (rootL ((L.take M2).map leafL)) M2 (proofL ((L.take M2).map leafL) M1 true) = true) := by
    have := grow_true (L.take M2) M1 M2 HT2.out m11 m21
    rw [List.take_take, Nat.min_eq_left m21] at this
    exact this
  have G2 := Lib.hid (grow_true L M2 N HLn.out (by omega) n1)
  have G3 := Lib.hid (grow_true L M1 N HLn.out m11 (by omega))
  go_wp2_with fail
  refine (rootOf_ok (LB.out.cutTo M1 (by omega)) (by omega) (HF.out.take M1)).mono ?_
  rintro e w2 ⟨A1, c1, rfl, hv, hf, hb⟩
  have hbx : Below w1.heap.size w1 w2 := below_via (by go_grown) hb (by first | (simp; done) | (simp; omega))
  have LB := Lib.hid (LB.out.stays hbx)
  have V1 := Lib.hid hv
  have R2 := Lib.hid (R1.out.trans (hbx.mono hs1))
  have hs2 := R2.out.size
  clear hb hbx hv
  clear R1
  clear hf
  go_wp2_with fail
  refine (rootOf_ok (LB.out.cutTo M2 (by omega)) (by omega) (HF.out.take M2)).mono ?_
  rintro e w3 ⟨A2, c2, rfl, hv, hf, hb⟩
  have hbx : Below w2.heap.size w2 w3 := below_via (by go_grown) hb (by first | (simp; done) | (simp; omega))
  have LB := Lib.hid (LB.out.stays hbx)
  have V1 := Lib.hid (V1.out.stays hbx)
  have V2 := Lib.hid hv
  have R3 := Lib.hid (R2.out.trans (hbx.mono hs2))
  have hs3 := R3.out.size
  clear hb hbx hv
  clear R2
  clear hf
  go_wp2_with fail
  refine (rootOf_ok LB.out (by omega) HF.out).mono ?_
  rintro e w4 ⟨A3, c3, rfl, hv, hf, hb⟩
  have hbx : Below w3.heap.size w3 w4 := below_via (by go_grown) hb (by first | (simp; done) | (simp; omega))
  have LB := Lib.hid (LB.out.stays hbx)
  have V1 := Lib.hid (V1.out.stays hbx)
  have V2 := Lib.hid (V2.out.stays hbx)
  have V3 := Lib.hid hv
  have R4 := Lib.hid (R3.out.trans (hbx.mono hs3))
  have hs4 := R4.out.size
  clear hb hbx hv
  clear R3
  clear hf
  go_wp2_with fail
  refine (consOf_ok (LB.out.cutTo M2 (by omega)) (by omega) (HF.out.take M2) m11 m21).mono ?_
  rintro e w5 ⟨A4, k4, c4, rfl, hv, hm4, hb⟩
  have hbx : Below w4.heap.size w4 w5 := below_via (by go_grown) hb (by first | (simp; done) | (simp; omega))
  have LB := Lib.hid (LB.out.stays hbx)
  have V1 := Lib.hid (V1.out.stays hbx)
  have V2 := Lib.hid (V2.out.stays hbx)
  have V3 := Lib.hid (V3.out.stays hbx)
  have P1 := Lib.hid hv.lists
  have R5 := Lib.hid (R4.out.trans (hbx.mono hs4))
  have hs5 := R5.out.size
  clear hb hbx 
  clear R4
  clear hv
  go_wp2_with fail
  refine (consOf_ok LB.out (by omega) HF.out (by omega) n1).mono ?_
  rintro e w6 ⟨A5, k5, c5, rfl, hv, hm5, hb⟩
  have hbx : Below w5.heap.size w5 w6 := below_via (by go_grown) hb (by first | (simp; done) | (simp; omega))
  have LB := Lib.hid (LB.out.stays hbx)
  have V1 := Lib.hid (V1.out.stays hbx)
  have V2 := Lib.hid (V2.out.stays hbx)
  have V3 := Lib.hid (V3.out.stays hbx)
  have P1 := Lib.hid (P1.out.stays hbx)
  have P2 := Lib.hid hv.lists
  have R6 := Lib.hid (R5.out.trans (hbx.mono hs5))
  have hs6 := R6.out.size
  clear hb hbx 
  clear R5
  clear hv
  go_wp2_with fail
  refine (consOf_ok LB.out (by omega) HF.out m11 (by omega)).mono ?_
  rintro e w7 ⟨A6, k6, c6, rfl, hv, hm6, hb⟩
  have hbx : Below w6.heap.size w6 w7 := below_via (by go_grown) hb (by first | (simp; done) | (simp; omega))
  have LB := Lib.hid (LB.out.stays hbx)
  have V1 := Lib.hid (V1.out.stays hbx)
  have V2 := Lib.hid (V2.out.stays hbx)
  have V3 := Lib.hid (V3.out.stays hbx)
  have P1 := Lib.hid (P1.out.stays hbx)
  have P2 := Lib.hid (P2.out.stays hbx)
  have P3 := Lib.hid hv.lists
  have R7 := Lib.hid (R6.out.trans (hbx.mono hs6))
  have hs7 := R7.out.size
  clear hb hbx 
  clear R6
  clear hv
  have Q1 := Lib.hid (proof_all32 _ ((L.take M2).map leafL) M1 true rfl (all32_leaves _)).few
  have Q2 := Lib.hid (proof_all32 _ (L.map leafL) M2 true rfl (all32_leaves _)).few
  have Q3 := Lib.hid (proof_all32 _ (L.map leafL) M1 true rfl (all32_leaves _)).few
  clear LB
  go_wp2_with fail
  refine (treeKnown _).mono ?_
  rintro e w8 ⟨rfl, hb⟩
  have hbx : Below w7.heap.size w7 w8 := below_via (by go_grown) hb (by first | (simp; done) | (simp; omega))
  have V1 := Lib.hid (V1.out.stays hbx)
  have V2 := Lib.hid (V2.out.stays hbx)
  have V3 := Lib.hid (V3.out.stays hbx)
  have P1 := Lib.hid (P1.out.stays hbx)
  have P2 := Lib.hid (P2.out.stays hbx)
  have P3 := Lib.hid (P3.out.stays hbx)
  have R8 := Lib.hid (R7.out.trans (hbx.mono hs7))
  have hs8 := R8.out.size
  clear hb hbx 
  clear R7
  go_wp2_with fail
  refine (grow_any _ _ M1 M2 _ _ _ _ _ _ _ _ _ _ _ V1.out V2.out P1.out (by omega) Q1.out m11 m21 (by omega)).mono ?_
  rintro e w9 ⟨rfl, hb⟩
  have hbx : Below w8.heap.size w8 w9 := below_via (by go_grown) hb (by first | (simp; done) | (simp; omega))
  have V1 := Lib.hid (V1.out.stays hbx)
  have V2 := Lib.hid (V2.out.stays hbx)
  have V3 := Lib.hid (V3.out.stays hbx)
  have P1 := Lib.hid (P1.out.stays hbx)
  have P2 := Lib.hid (P2.out.stays hbx)
  have P3 := Lib.hid (P3.out.stays hbx)
  have R9 := Lib.hid (R8.out.trans (hbx.mono hs8))
  have hs9 := R9.out.size
  clear hb hbx 
  clear R8
  rw [G1.out]
  go_wp2_with fail
  refine (grow_any _ _ M2 N _ _ _ _ _ _ _ _ _ _ _ V2.out V3.out P2.out (by omega) Q2.out (by omega) n1 (by omega)).mono ?_
  rintro e w10 ⟨rfl, hb⟩
  have hbx : Below w9.heap.size w9 w10 := below_via (by go_grown) hb (by first | (simp; done) | (simp; omega))
  have V1 := Lib.hid (V1.out.stays hbx)
  have V2 := Lib.hid (V2.out.stays hbx)
  have V3 := Lib.hid (V3.out.stays hbx)
  have P1 := Lib.hid (P1.out.stays hbx)
  have P2 := Lib.hid (P2.out.stays hbx)
  have P3 := Lib.hid (P3.out.stays hbx)
  have R10 := Lib.hid (R9.out.trans (hbx.mono hs9))
  have hs10 := R10.out.size
  clear hb hbx 
  clear R9
  rw [G2.out]
  go_wp2_with fail
  refine (grow_any _ _ M1 N _ _ _ _ _ _ _ _ _ _ _ V1.out V3.out P3.out (by omega) Q3.out m11 (by omega) (by omega)).mono ?_
  rintro e w11 ⟨rfl, hb⟩
  have hbx : Below w10.heap.size w10 w11 := below_via (by go_grown) hb (by first | (simp; done) | (simp; omega))
  have V1 := Lib.hid (V1.out.stays hbx)
  have V2 := Lib.hid (V2.out.stays hbx)
  have V3 := Lib.hid (V3.out.stays hbx)
  have P1 := Lib.hid (P1.out.stays hbx)
  have P2 := Lib.hid (P2.out.stays hbx)
  have P3 := Lib.hid (P3.out.stays hbx)
  have R11 := Lib.hid (R10.out.trans (hbx.mono hs10))
  have hs11 := R11.out.size
  clear hb hbx 
  clear R10
  rw [G3.out]
  generalize hgb : growB (rootL ((L.take M1).map leafL)) M1 (rootL (L.map leafL)) N (proofL ((L.take M2).map leafL) M1 true) = gb
  have HGB := Lib.hid hgb
  clear hgb
  go_wp2_with fail
  refine (grow_any _ _ M1 N _ _ _ _ _ _ _ _ _ _ _ V1.out V3.out P1.out (by omega) Q1.out m11 (by omega) (by omega)).mono ?_
  rintro e w12 ⟨rfl, hb⟩
  have hbx : Below w11.heap.size w11 w12 := below_via (by go_grown) hb (by first | (simp; done) | (simp; omega))
  have V1 := Lib.hid (V1.out.stays hbx)
  have V2 := Lib.hid (V2.out.stays hbx)
  have V3 := Lib.hid (V3.out.stays hbx)
  have P1 := Lib.hid (P1.out.stays hbx)
  have P2 := Lib.hid (P2.out.stays hbx)
  have P3 := Lib.hid (P3.out.stays hbx)
  have R12 := Lib.hid (R11.out.trans (hbx.mono hs11))
  have hs12 := R12.out.size
  clear hb hbx 
  clear R11
  rw [HGB.out]
  go_wp2_with fail
  refine (refGrow_any _ _ M1 N _ _ _ _ _ _ _ _ _ _ _ V1.out V3.out P1.out (by omega) Q1.out m11 (by omega) (by omega)).mono ?_
  rintro e w13 ⟨rfl, hb⟩
  have hbx : Below w12.heap.size w12 w13 := below_via (by go_grown) hb (by first | (simp; done) | (simp; omega))
  have V1 := Lib.hid (V1.out.stays hbx)
  have V2 := Lib.hid (V2.out.stays hbx)
  have V3 := Lib.hid (V3.out.stays hbx)
  have P1 := Lib.hid (P1.out.stays hbx)
  have P2 := Lib.hid (P2.out.stays hbx)
  have P3 := Lib.hid (P3.out.stays hbx)
  have R13 := Lib.hid (R12.out.trans (hbx.mono hs12))
  have hs13 := R13.out.size
  clear hb hbx 
  clear R12
  rw [HGB.out]
  go_wp2_with fail
  refine (grow_bad _ _ _ _ _ _ _ _ _ _ _ _ (by omega)).mono ?_
  rintro e w14 ⟨rfl, hb⟩
  have hbx : Below w13.heap.size w13 w14 := below_via (by go_grown) hb (by first | (simp; done) | (simp; omega))
  have V1 := Lib.hid (V1.out.stays hbx)
  have V2 := Lib.hid (V2.out.stays hbx)
  have V3 := Lib.hid (V3.out.stays hbx)
  have P1 := Lib.hid (P1.out.stays hbx)
  have P2 := Lib.hid (P2.out.stays hbx)
  have P3 := Lib.hid (P3.out.stays hbx)
  have R14 := Lib.hid (R13.out.trans (hbx.mono hs13))
  have hs14 := R14.out.size
  clear hb hbx 
  clear R13
  go_wp2
  go_ret
  exact ⟨rfl, R14.out⟩
end Go.Proofs.Ytahphlcahaheiaa
