/- TreeGrows: the walk. -/
import Derived.Test.YtahphlcahaheiaaTreeX
import Derived.Test.YtahphlcahaheiaaTreeK
import Derived.Test.YtahphlcahaheiaaTreeQ
import Derived.Test.YtahphlcahaheiaaTreeY
import Derived.Test.YtahphlcahaheiaaSet1
import Derived.Lib.SlBytesConst
namespace Go.Proofs.Ytahphlcahaheiaa
open Go.RowKit

set_option maxRecDepth 100000 in
set_option maxHeartbeats 4000000 in
theorem treeGrows_walk (s n m t : Int) (w : World) :
    Calls Try.prog 13 #[.int .i64 s, .int .i64 n, .int .i64 m, .int .i64 t] w fun e w' => e = .returned (.bool true) ∧ Below w.heap.size w w' := by
  obtain ⟨x, hx, hx2⟩ : ∃ x : Nat, s % 1000 = (x : Int) ∧ x < 1000 := ⟨(s % 1000).toNat, by omega, by omega⟩
  have Hx := Lib.hid hx
  clear hx
  obtain ⟨y, hy, hy2⟩ : ∃ y : Nat, n % 20 = (y : Int) ∧ y < 20 := ⟨(n % 20).toNat, by omega, by omega⟩
  have Hy := Lib.hid hy
  clear hy
  have hcv := fun (W : World) => Lib.run_convert_bytes_const (P := Try.prog) W 22 5 #[.int .u8 99, .int .u8 104, .int .u8 97, .int .u8 110, .int .u8 103, .int .u8 101, .int .u8 100] 7 7 Try.underlying22 Try.underlying5
  go_enter Try.func13, Try.ntmps13
  go_wp2_with fail
  refine (within_any n 20 (by decide) (by decide) _).mono ?_
  rintro e w1 ⟨rfl, rfl⟩
  rw [Hy.out]
  obtain ⟨N, hN⟩ : ∃ N : Nat, (1 : Int) + (y : Int) = (N : Int) := ⟨1 + y, by omega⟩
  have hN2 : 1 ≤ N := by omega
  have hN3 : N ≤ 20 := by omega
  obtain ⟨z, hz, hz2⟩ : ∃ z : Nat, m % (N : Int) = (z : Int) ∧ z < N := by
    have h1 := Int.emod_nonneg m (show (N : Int) ≠ 0 by omega)
    have h2 := Int.emod_lt_of_pos m (show (0 : Int) < N by omega)
    exact ⟨(m % (N : Int)).toNat, by omega, by omega⟩
  have HZ := Lib.hid hz
  clear hz
  go_wp2_with fail
  refine (within_any m N (by omega) (by omega) _).mono ?_
  rintro e w1 ⟨rfl, rfl⟩
  rw [HZ.out]
  obtain ⟨M, hM⟩ : ∃ M : Nat, (1 : Int) + (z : Int) = (M : Int) := ⟨1 + z, by omega⟩
  have hM1 : 1 ≤ M := by omega
  have hM2 : M ≤ N := by omega
  go_wp2_with fail
  clear hN hM
  refine (leaves_any s x N _ Hx.out (by omega)).mono ?_
  rintro e w1 ⟨AL, cL, rfl, hv, hb⟩
  have hbx : Below w.heap.size w w1 := below_via (by go_grown) hb (by first | (simp; done) | (simp; omega))
  have LO := Lib.hid hv
  have R1 := Lib.hid hbx
  have hs1 := R1.out.size
  clear hb hbx hv
  have l1 := LO.out.le
  have l2 := LO.out.cap
  have HF := Lib.hid (leavesL_few x N)
  have HLn := Lib.hid (leavesL_length x N)
  generalize leavesL x N = L at *
  have i1 : (M : Int) ≤ (cL : Int) := by omega
  have i3 : (0 : Int) ≤ (M : Int) := by omega
  obtain ⟨vs, hown, hI⟩ := LO.out
  obtain ⟨gb, cur, rfl, hgb, hB, hc1, hc2, hcur⟩ := own_blk hown (by omega)
  have SI : Hid (ItemsV 1 encB id _ (some gb) vs L) := hI
  have SK := Lib.hid hB
  have HC := Lib.hid hcur
  have HC2 := Lib.hid hc2
  have hvl : vs.length = N := by have := hI.1; rw [HLn.out] at this; omega
  have LB := Lib.hid LO.out.lists
  clear LO hown hI hB hcur hc2
  have GT := Lib.hid (grow_true L M N HLn.out hM1 hM2)
  go_wp2_with fail
  have SKl := SK.out.lt
  refine (rootOf_ok (LB.out.cutTo M (by omega)) (by omega) (HF.out.take M)).mono ?_
  rintro e w2 ⟨A1, c1, rfl, hv, hf, hb⟩
  have hbx : Below w1.heap.size w1 w2 := below_via (by go_grown) hb (by first | (simp; done) | (simp; omega))
  have SI := Lib.hid (SI.out.stays hbx)
  have SK := Lib.hid (SK.out.stays hbx)
  have LB := Lib.hid (LB.out.stays hbx)
  have V1 := Lib.hid hv
  have R2 := Lib.hid (R1.out.trans (hbx.mono hs1))
  have hs2 := R2.out.size
  clear hb hbx hv
  clear R1
  have O1 := Lib.hid (Off.fresh (n := 32) (bad := some gb) hf (fun q hq => by injection hq with hq; omega))
  clear hf SKl
  go_wp2_with fail
  refine (rootOf_ok LB.out (by omega) HF.out).mono ?_
  rintro e w3 ⟨A2, c2, rfl, hv, hf, hb⟩
  have hbx : Below w2.heap.size w2 w3 := below_via (by go_grown) hb (by first | (simp; done) | (simp; omega))
  have SI := Lib.hid (SI.out.stays hbx)
  have SK := Lib.hid (SK.out.stays hbx)
  have LB := Lib.hid (LB.out.stays hbx)
  have V1 := Lib.hid (V1.out.stays hbx)
  have V2 := Lib.hid hv
  have R3 := Lib.hid (R2.out.trans (hbx.mono hs2))
  have hs3 := R3.out.size
  clear hb hbx hv
  clear R2
  clear hf
  go_wp2_with fail
  refine (consOf_ok LB.out (by omega) HF.out hM1 hM2).mono ?_
  rintro e w4 ⟨A3, k3, c3, rfl, hv, hm3, hb⟩
  have hbx : Below w3.heap.size w3 w4 := below_via (by go_grown) hb (by first | (simp; done) | (simp; omega))
  have SI := Lib.hid (SI.out.stays hbx)
  have SK := Lib.hid (SK.out.stays hbx)
  have LB := Lib.hid (LB.out.stays hbx)
  have V1 := Lib.hid (V1.out.stays hbx)
  have V2 := Lib.hid (V2.out.stays hbx)
  have P1 := Lib.hid hv.lists
  have R4 := Lib.hid (R3.out.trans (hbx.mono hs3))
  have hs4 := R4.out.size
  clear hb hbx 
  clear R3
  clear hv
  have Q1 := Lib.hid (proof_all32 _ (L.map leafL) M true rfl (all32_leaves _)).few
  go_wp2_with fail
  refine (grow_any _ _ M N _ _ _ _ _ _ _ _ _ _ _ V1.out V2.out P1.out (by omega) Q1.out hM1 hM2 (by omega)).mono ?_
  rintro e w5 ⟨rfl, hb⟩
  have hbx : Below w4.heap.size w4 w5 := below_via (by go_grown) hb (by first | (simp; done) | (simp; omega))
  have SI := Lib.hid (SI.out.stays hbx)
  have SK := Lib.hid (SK.out.stays hbx)
  have LB := Lib.hid (LB.out.stays hbx)
  have V1 := Lib.hid (V1.out.stays hbx)
  have V2 := Lib.hid (V2.out.stays hbx)
  have P1 := Lib.hid (P1.out.stays hbx)
  have R5 := Lib.hid (R4.out.trans (hbx.mono hs4))
  have hs5 := R5.out.size
  clear hb hbx 
  clear R4
  rw [GT.out]
  clear V2 P1 LB
  obtain ⟨u, hu, hu2⟩ : ∃ u : Nat, t % (M : Int) = (u : Int) ∧ u < M := by
    have h1 := Int.emod_nonneg t (show (M : Int) ≠ 0 by omega)
    have h2 := Int.emod_lt_of_pos t (show (0 : Int) < M by omega)
    exact ⟨(t % (M : Int)).toNat, by omega, by omega⟩
  have HU := Lib.hid hu
  clear hu
  go_wp2_with fail
  refine (within_any t M (by omega) (by omega) _).mono ?_
  rintro e w6 ⟨rfl, rfl⟩
  rw [HU.out]
  have huN : u < N := by omega
  have hui : (u : Int) < (N : Int) := by omega
  have hui0 : (0 : Int) ≤ (u : Int) := by omega
  have hcl := SK.out.cell u
  have hcf := SK.out.frozen u
  have hltb := SK.out.lt
  have hcs : (cur[u]?).isSome = true := by
    have h1 : u < cur.toList.length := by have := congrArg List.length HC.out; rw [List.length_take, hvl] at this; omega
    simpa using h1
  obtain ⟨u0, hu0⟩ := Option.isSome_iff_exists.1 hcs
  rw [hu0] at hcl
  clear hcs hu0
  have hgw : w.heap.size ≤ gb := by omega
  go_wp2_with fail
  obtain ⟨v, hv⟩ : ∃ v : Value, v = .slice (some ⟨w5.heap.size, 0, none⟩) 7 7 := ⟨_, rfl⟩
  rw [← hv]
  have hsz : (w5.setCell ⟨gb, u, none⟩ v).heap.size = w5.heap.size := by simp
  have K2 := SK.out.put u v
  have I2 := itemsV_putS SI.out u v
  have V12 := V1.out.kept (grown_put (World.grownBy.refl w5 _) u v) O1.out
  have R2b := R5.out.setCell (p := ⟨gb, u, none⟩) hgw v
  generalize w5.setCell ⟨gb, u, none⟩ v = wS at *
  have BC := bytes_litm (w := wS) (E := 5) (n := 7) (fr := (7, 8)) [99, 104, 97, 110, 103, 101, 100] #[.int .u8 99, .int .u8 104, .int .u8 97, .int .u8 110, .int .u8 103, .int .u8 101, .int .u8 100] rfl rfl (by decide)
  have kk : Below wS.heap.size wS (wS.alloc (.cells #[.int .u8 99, .int .u8 104, .int .u8 97, .int .u8 110, .int .u8 103, .int .u8 101, .int .u8 100] 5 (7, 8))) := (Below.refl _ _).alloc (Nat.le_refl _) _
  have R3b := R2b.trans (kk.mono R2b.size)
  have V13 := V12.stays kk
  have K3 := K2.stays kk
  have I3 := I2.stays kk
  generalize wS.alloc (.cells #[.int .u8 99, .int .u8 104, .int .u8 97, .int .u8 110, .int .u8 103, .int .u8 101, .int .u8 100] 5 (7, 8)) = wT at *
  rw [hsz] at BC
  have ho : Off (some ⟨w5.heap.size, 0, none⟩) 7 (some gb) := fun a ha _ e => by injection ha with ha; injection e with e; subst ha; simp at e; omega
  have I4 := I3.setOne u [99, 104, 97, 110, 103, 101, 100] (some ⟨w5.heap.size, 0, none⟩) 7 7 (by rw [HLn.out]; omega) BC ho
  rw [← hv] at I4
  have hcur2 := take_set_cells (u := v) HC.out huN
  have hR2 := blk_rd K3 hcur2 (by simpa using hvl) hc1 HC2.out
  have SL := Lib.hid (I4.lists hR2)
  have V1 := Lib.hid V13
  have RN := Lib.hid R3b
  have hsN := RN.out.size
  have HF2 : Hid (few (L.set u [99, 104, 97, 110, 103, 101, 100])) := fun l hl => by
    rcases List.mem_or_eq_of_mem_set hl with h | rfl
    · exact HF.out l h
    · decide
  have HLn2 : Hid ((L.set u [99, 104, 97, 110, 103, 101, 100]).length = N) := by unfold Hid; rw [List.length_set, HLn.out]
  clear hsz K2 I2 V12 R2b BC kk R3b V13 K3 I3 I4 hcur2 hR2 SI SK ho hv hcl hcf hcv
  generalize L.set u [99, 104, 97, 110, 103, 101, 100] = L2 at *
  refine (rootOf_ok SL.out (by omega) HF2.out).mono ?_
  rintro e w6 ⟨A5, c5, rfl, hv, hf, hb⟩
  have hbx : Below wT.heap.size wT w6 := below_via (by go_grown) hb (by first | (simp; done) | (simp; omega))
  have SL := Lib.hid (SL.out.stays hbx)
  have V1 := Lib.hid (V1.out.stays hbx)
  have V5 := Lib.hid hv
  have R6 := Lib.hid (RN.out.trans (hbx.mono hsN))
  have hs6 := R6.out.size
  clear hb hbx hv
  clear RN
  clear hf
  go_wp2_with fail
  refine (consOf_ok SL.out (by omega) HF2.out hM1 hM2).mono ?_
  rintro e w7 ⟨A6, k6, c6, rfl, hv, hm6, hb⟩
  have hbx : Below w6.heap.size w6 w7 := below_via (by go_grown) hb (by first | (simp; done) | (simp; omega))
  have SL := Lib.hid (SL.out.stays hbx)
  have V1 := Lib.hid (V1.out.stays hbx)
  have V5 := Lib.hid (V5.out.stays hbx)
  have P6 := Lib.hid hv.lists
  have R7 := Lib.hid (R6.out.trans (hbx.mono hs6))
  have hs7 := R7.out.size
  clear hb hbx 
  clear R6
  clear hv
  have Q6 := Lib.hid (proof_all32 _ (L2.map leafL) M true rfl (all32_leaves _)).few
  go_wp2_with fail
  refine (treeKnown _).mono ?_
  rintro e w8 ⟨rfl, hb⟩
  have hbx : Below w7.heap.size w7 w8 := below_via (by go_grown) hb (by first | (simp; done) | (simp; omega))
  have SL := Lib.hid (SL.out.stays hbx)
  have V1 := Lib.hid (V1.out.stays hbx)
  have V5 := Lib.hid (V5.out.stays hbx)
  have P6 := Lib.hid (P6.out.stays hbx)
  have R8 := Lib.hid (R7.out.trans (hbx.mono hs7))
  have hs8 := R8.out.size
  clear hb hbx 
  clear R7
  generalize hgb2 : growB (rootL ((L.take M).map leafL)) M (rootL (L2.map leafL)) N (proofL (L2.map leafL) M true) = gb2
  have HGB := Lib.hid hgb2
  clear hgb2
  go_wp2_with fail
  refine (grow_any _ _ M N _ _ _ _ _ _ _ _ _ _ _ V1.out V5.out P6.out (by omega) Q6.out hM1 hM2 (by omega)).mono ?_
  rintro e w9 ⟨rfl, hb⟩
  have hbx : Below w8.heap.size w8 w9 := below_via (by go_grown) hb (by first | (simp; done) | (simp; omega))
  have SL := Lib.hid (SL.out.stays hbx)
  have V1 := Lib.hid (V1.out.stays hbx)
  have V5 := Lib.hid (V5.out.stays hbx)
  have P6 := Lib.hid (P6.out.stays hbx)
  have R9 := Lib.hid (R8.out.trans (hbx.mono hs8))
  have hs9 := R9.out.size
  clear hb hbx 
  clear R8
  rw [HGB.out]
  go_wp2_with fail
  refine (refGrow_any _ _ M N _ _ _ _ _ _ _ _ _ _ _ V1.out V5.out P6.out (by omega) Q6.out hM1 hM2 (by omega)).mono ?_
  rintro e w10 ⟨rfl, hb⟩
  have hbx : Below w9.heap.size w9 w10 := below_via (by go_grown) hb (by first | (simp; done) | (simp; omega))
  have SL := Lib.hid (SL.out.stays hbx)
  have V1 := Lib.hid (V1.out.stays hbx)
  have V5 := Lib.hid (V5.out.stays hbx)
  have P6 := Lib.hid (P6.out.stays hbx)
  have R10 := Lib.hid (R9.out.trans (hbx.mono hs9))
  have hs10 := R10.out.size
  clear hb hbx 
  clear R9
  rw [HGB.out]
  go_wp2
  go_ret
  exact ⟨rfl, R10.out⟩
end Go.Proofs.Ytahphlcahaheiaa
