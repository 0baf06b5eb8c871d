/- TreeSplits: the walk. -/
import Derived.Test.YtahphlcahaheiaaTreeK
import Derived.Test.YtahphlcahaheiaaSame
namespace Go.Proofs.Ytahphlcahaheiaa
open Go.RowKit

set_option maxRecDepth 100000 in
set_option maxHeartbeats 4000000 in
theorem treeSplits_walk (s n : Int) (w : World) :
    Calls Try.prog 8 #[.int .i64 s, .int .i64 n] w fun e w' => e = .returned (.bool true) ∧ Below w.heap.size w w' := by
  obtain ⟨x, hx, hx2⟩ : ∃ x : Nat, s % 1000 = (x : Int) ∧ x < 1000 := ⟨(s % 1000).toNat, by omega, by omega⟩
  have Hx := Lib.hid hx
  clear hx
  obtain ⟨y, hy, hy2⟩ : ∃ y : Nat, n % 30 = (y : Int) ∧ y < 30 := ⟨(n % 30).toNat, by omega, by omega⟩
  have Hy := Lib.hid hy
  clear hy
  go_enter Try.func8, Try.ntmps8
  go_wp2_with fail
  refine (within_any n 30 (by decide) (by decide) _).mono ?_
  rintro e w1 ⟨rfl, rfl⟩
  rw [Hy.out]
  obtain ⟨N, hN⟩ : ∃ N : Nat, (2 : Int) + (y : Int) = (N : Int) := ⟨2 + y, by omega⟩
  have hN2 : 2 ≤ N := by omega
  have hN3 : N ≤ 31 := by omega
  go_wp2_with fail
  clear hN
  refine (leaves_any s x N _ Hx.out (by omega)).mono ?_
  rintro e w1 ⟨AL, cL, rfl, hv, hb⟩
  have hbx : Below w.heap.size w w1 := below_via (by go_grown) hb (by first | (simp; done) | (simp; omega))
  have LB := Lib.hid hv.lists
  have R1 := Lib.hid hbx
  have hs1 := R1.out.size
  clear hb hbx 
  clear hv
  have l1 := LB.out.le
  have l2 := LB.out.cap
  have HF := Lib.hid (leavesL_few x N)
  have HLn := Lib.hid (leavesL_length x N)
  have HRt : Hid (rootL ((leavesL x N).map leafL) = nodeL (rootL (((leavesL x N).take (halfN N)).map leafL)) (rootL (((leavesL x N).drop (halfN N)).map leafL))) := by
    unfold Hid
    rw [rootL_more _ (by rw [List.length_map, HLn.out]; exact hN2), List.length_map, HLn.out, List.map_take, List.map_drop]
  generalize leavesL x N = L at *
  go_wp2
  go_loop [6] (fun k => ∃ (q a : Nat), k = .int .i64 q ∧ Hid (q = 2 ^ a) ∧ q < N) (fun k => N - (intOf k).toNat)
  case atStart => exact ⟨1, 0, rfl, rfl, by omega⟩
  case round =>
    obtain ⟨q, a, rfl, hq, hqn⟩ := hrel
    have hq0 : 0 < q := by rw [hq.out]; exact Nat.two_pow_pos a
    by_cases h : 2 * q < N
    · have hi : 2 * (q : Int) < (N : Int) := by omega
      go_wp2
      go_round
      case rel => exact ⟨2 * q, a + 1, by go_num, by have := hq.out; unfold Hid; rw [Nat.pow_succ]; omega, h⟩
      case measure => simp [intOf]; omega
    · have hi : ¬ 2 * (q : Int) < (N : Int) := by omega
      have HE := Lib.hid (half_only (n := N) hq.out hqn (by omega))
      rw [HE.out] at HRt
      have s1 := run_cutFrom und_lists size_list (A := AL) (n := N) (c := cL) (q : Int) q (N - q) (cL - q) rfl (by omega) rfl rfl
      have kc : (q : Int) ≤ (cL : Int) := by omega
      have kn0 : (0 : Int) ≤ (q : Int) := by omega
      go_wp2_with fail
      refine (rootOf_ok LB.out (by omega) HF.out).mono ?_
      rintro e w2 ⟨A1, c1, rfl, hv, hf, hb⟩
      have hbx : Below w1.heap.size w1 w2 := below_via (by go_grown) hb (by first | (simp; done) | (simp; omega))
      have LB := Lib.hid (LB.out.stays hbx)
      have V1 := Lib.hid hv
      have R2 := Lib.hid (R1.out.trans (hbx.mono hs1))
      have hs2 := R2.out.size
      clear hb hbx hv
      clear R1
      clear hf
      go_wp2_with fail
      refine (rootOf_ok (LB.out.cutTo q (by omega)) (by omega) (HF.out.take q)).mono ?_
      rintro e w3 ⟨A2, c2, rfl, hv, hf, hb⟩
      have hbx : Below w2.heap.size w2 w3 := below_via (by go_grown) hb (by first | (simp; done) | (simp; omega))
      have LB := Lib.hid (LB.out.stays hbx)
      have V1 := Lib.hid (V1.out.stays hbx)
      have V2 := Lib.hid hv
      have R3 := Lib.hid (R2.out.trans (hbx.mono hs2))
      have hs3 := R3.out.size
      clear hb hbx hv
      clear R2
      clear hf
      go_wp2_with fail
      refine (rootOf_ok (LB.out.cutFrom q (by omega) (d := N - q) (k := cL - q) rfl rfl) (by omega) (HF.out.drop q)).mono ?_
      rintro e w4 ⟨A3, c3, rfl, hv, hf, hb⟩
      have hbx : Below w3.heap.size w3 w4 := below_via (by go_grown) hb (by first | (simp; done) | (simp; omega))
      have LB := Lib.hid (LB.out.stays hbx)
      have V1 := Lib.hid (V1.out.stays hbx)
      have V2 := Lib.hid (V2.out.stays hbx)
      have V3 := Lib.hid hv
      have R4 := Lib.hid (R3.out.trans (hbx.mono hs3))
      have hs4 := R4.out.size
      clear hb hbx hv
      clear R3
      clear hf s1
      go_wp2_with fail
      refine (treeKnown _).mono ?_
      rintro e w5 ⟨rfl, hb⟩
      have hbx : Below w4.heap.size w4 w5 := below_via (by go_grown) hb (by first | (simp; done) | (simp; omega))
      have LB := Lib.hid (LB.out.stays hbx)
      have V1 := Lib.hid (V1.out.stays hbx)
      have V2 := Lib.hid (V2.out.stays hbx)
      have V3 := Lib.hid (V3.out.stays hbx)
      have R5 := Lib.hid (R4.out.trans (hbx.mono hs4))
      have hs5 := R5.out.size
      clear hb hbx 
      clear R4
      go_wp2_with fail
      refine (node_any _ _ _ _ _ _ _ _ _ V2.out V3.out (by omega) (by omega)).mono ?_
      rintro e w6 ⟨A4, c4, rfl, hv, hf, hb⟩
      have hbx : Below w5.heap.size w5 w6 := below_via (by go_grown) hb (by first | (simp; done) | (simp; omega))
      have LB := Lib.hid (LB.out.stays hbx)
      have V1 := Lib.hid (V1.out.stays hbx)
      have V2 := Lib.hid (V2.out.stays hbx)
      have V3 := Lib.hid (V3.out.stays hbx)
      have V4 := Lib.hid hv
      have R6 := Lib.hid (R5.out.trans (hbx.mono hs5))
      have hs6 := R6.out.size
      clear hb hbx hv
      clear R5
      clear hf
      go_wp2_with fail
      refine (refSame_true V1.out V4.out HRt.out).mono ?_
      rintro e w7 ⟨rfl, rfl⟩
      have kk : Below w6.heap.size w6 (w6.alloc (.cells #[.int .u8 1] 5)) := (Below.refl _ _).alloc (Nat.le_refl _) _
      have hL := lists_made3 (E := 22) (byte1 (w := w6) (E := 5)) (V2.out.stays kk) (V3.out.stays kk)
      rw [show (w6.alloc (.cells #[.int .u8 1] 5)).heap.size = w6.heap.size + 1 by simp] at hL
      have HLL := Lib.hid hL
      have hT : Hid ([[1], rootL ((L.take q).map leafL), rootL ((L.drop q).map leafL)].flatten.length = 65) := by unfold Hid; simp only [List.flatten_cons, List.flatten_nil, List.append_nil, List.length_append, List.length_cons, List.length_nil, V2.out.len, V3.out.len]
      clear kk hL
      go_wp2_with fail
      refine (refJoin_any _ _ _ _ _ HLL.out 65 hT.out (by omega)).mono ?_
      rintro e w7 ⟨A5, c5, rfl, hv, hb⟩
      have hbx : Below w6.heap.size w6 w7 := below_via (by go_grown) hb (by first | (simp; done) | (simp; omega))
      have LB := Lib.hid (LB.out.stays hbx)
      have V1 := Lib.hid (V1.out.stays hbx)
      have V2 := Lib.hid (V2.out.stays hbx)
      have V3 := Lib.hid (V3.out.stays hbx)
      have V4 := Lib.hid (V4.out.stays hbx)
      have V5 := Lib.hid (show Bytes _ _ _ _ (1 :: (rootL ((L.take q).map leafL) ++ rootL ((L.drop q).map leafL))) from (by have := own_rd hv; simpa [Bytes] using this))
      have R7 := Lib.hid (R6.out.trans (hbx.mono hs6))
      have hs7 := R7.out.size
      clear hb hbx 
      clear R6
      clear hv HLL
      go_wp2_with fail
      refine (refSum_any _ _ _ _ _ V5.out).mono ?_
      rintro e w8 ⟨A6, c6, rfl, hv, hb⟩
      have hbx : Below w7.heap.size w7 w8 := below_via (by go_grown) hb (by first | (simp; done) | (simp; omega))
      have LB := Lib.hid (LB.out.stays hbx)
      have V1 := Lib.hid (V1.out.stays hbx)
      have V2 := Lib.hid (V2.out.stays hbx)
      have V3 := Lib.hid (V3.out.stays hbx)
      have V4 := Lib.hid (V4.out.stays hbx)
      have V5 := Lib.hid (V5.out.stays hbx)
      have V6 := Lib.hid (show Bytes _ _ _ _ (nodeL (rootL ((L.take q).map leafL)) (rootL ((L.drop q).map leafL))) from own_rd hv)
      have R8 := Lib.hid (R7.out.trans (hbx.mono hs7))
      have hs8 := R8.out.size
      clear hb hbx 
      clear R7
      clear hv
      go_wp2_with fail
      refine (refSame_true V1.out V6.out HRt.out).mono ?_
      rintro e w9 ⟨rfl, rfl⟩
      go_wp2
      go_ret
      exact ⟨rfl, R8.out⟩
end Go.Proofs.Ytahphlcahaheiaa
