/- TreePaths: the walk. -/
import Derived.Test.YtahphlcahaheiaaTreeQ
import Derived.Test.YtahphlcahaheiaaTreeK
namespace Go.Proofs.Ytahphlcahaheiaa
open Go.RowKit

set_option maxRecDepth 100000 in
set_option maxHeartbeats 4000000 in
theorem treePaths_walk (s n i : Int) (w : World) :
    Calls Try.prog 12 #[.int .i64 s, .int .i64 n, .int .i64 i] w fun e w' => e = .returned (.bool true) ∧ Below w.heap.size w w' := by
  obtain ⟨x, hx, hx2⟩ : ∃ x : Nat, s % 1000 = (x : Int) ∧ x < 1000 := ⟨(s % 1000).toNat, by omega, by omega⟩
  have Hx := Lib.hid hx
  clear hx
  obtain ⟨y, hy, hy2⟩ : ∃ y : Nat, n % 24 = (y : Int) ∧ y < 24 := ⟨(n % 24).toNat, by omega, by omega⟩
  have Hy := Lib.hid hy
  clear hy
  go_enter Try.func12, Try.ntmps12
  go_wp2_with fail
  refine (within_any n 24 (by decide) (by decide) _).mono ?_
  rintro e w1 ⟨rfl, rfl⟩
  rw [Hy.out]
  obtain ⟨N, hN⟩ : ∃ N : Nat, (1 : Int) + (y : Int) = (N : Int) := ⟨1 + y, by omega⟩
  have hN2 : 1 ≤ N := by omega
  have hN3 : N ≤ 24 := by omega
  go_wp2_with fail
  clear hN
  refine (leaves_any s x N _ Hx.out (by omega)).mono ?_
  rintro e w1 ⟨AL, cL, rfl, hv, hb⟩
  have hbx : Below w.heap.size w w1 := below_via (by go_grown) hb (by first | (simp; done) | (simp; omega))
  have LB := Lib.hid hv.lists
  have R1 := Lib.hid hbx
  have hs1 := R1.out.size
  clear hb hbx 
  clear hv
  have l1 := LB.out.le
  have l2 := LB.out.cap
  have HF := Lib.hid (leavesL_few x N)
  have HLn := Lib.hid (leavesL_length x N)
  generalize leavesL x N = L at *
  obtain ⟨z, hz, hz2⟩ : ∃ z : Nat, i % (N : Int) = (z : Int) ∧ z < N := by
    have h1 := Int.emod_nonneg i (show (N : Int) ≠ 0 by omega)
    have h2 := Int.emod_lt_of_pos i (show (0 : Int) < N by omega)
    exact ⟨(i % (N : Int)).toNat, by omega, by omega⟩
  have HZ := Lib.hid hz
  clear hz
  go_wp2_with fail
  refine (within_any i N (by omega) (by omega) _).mono ?_
  rintro e w2 ⟨rfl, rfl⟩
  rw [HZ.out]
  go_wp2_with fail
  refine (rootOf_ok LB.out (by omega) HF.out).mono ?_
  rintro e w2 ⟨A1, c1, rfl, hv, hf, hb⟩
  have hbx : Below w1.heap.size w1 w2 := below_via (by go_grown) hb (by first | (simp; done) | (simp; omega))
  have LB := Lib.hid (LB.out.stays hbx)
  have V1 := Lib.hid hv
  have R2 := Lib.hid (R1.out.trans (hbx.mono hs1))
  have hs2 := R2.out.size
  clear hb hbx hv
  clear R1
  clear hf
  go_wp2_with fail
  refine (pathOf_ok LB.out (by omega) HF.out hz2).mono ?_
  rintro e w3 ⟨A2, m2, c2, rfl, hv, hm2, hb⟩
  have hbx : Below w2.heap.size w2 w3 := below_via (by go_grown) hb (by first | (simp; done) | (simp; omega))
  have LB := Lib.hid (LB.out.stays hbx)
  have V1 := Lib.hid (V1.out.stays hbx)
  have P1 := Lib.hid hv.lists
  have R3 := Lib.hid (R2.out.trans (hbx.mono hs2))
  have hs3 := R3.out.size
  clear hb hbx 
  clear R2
  clear hv
  have HP := Lib.hid (path_all32 _ (L.map leafL) z rfl (all32_leaves L)).few
  have HC := Lib.hid (climbO_path L z N HLn.out hz2)
  have HK := Lib.hid (check_path L z N HLn.out hz2)
  have p1 := P1.out.le
  have p2 := P1.out.cap
  have hzi : (z : Int) < (N : Int) := by omega
  have hzi0 : (0 : Int) ≤ (z : Int) := by omega
  obtain ⟨b, off, A3, n3, c3, rfl, hc, hy⟩ := LB.out.at_ hz2
  have hn3 : n3 ≤ 100000 := by rw [← hy.len]; exact HF.out.at_ (by rw [HLn.out]; exact hz2)
  have HCc := Lib.hid hc
  have YB := Lib.hid hy
  clear hy
  go_wp2_with fail
  refine (climbO_any N z _ _ _ _ _ _ _ _ _ YB.out P1.out hz2 (by omega) hn3 HP.out).mono ?_
  rintro e wa ⟨⟨r, A4, m4, c4, hr, rfl, hv⟩ | ⟨hr, rfl⟩, hb⟩
  · rw [HC.out] at hr
    injection hr with hr
    subst hr
    have hbx : Below w3.heap.size w3 wa := hb
    have V1 := Lib.hid (V1.out.stays hbx)
    have P1 := Lib.hid (P1.out.stays hbx)
    have YB := Lib.hid (YB.out.stays hbx)
    have HCc := Lib.hid (cell_stays hbx HCc.out)
    have Ra := Lib.hid (R3.out.trans (hbx.mono hs3))
    have hsa := Ra.out.size
    have V4 := Lib.hid hv
    clear hv hb hbx hc
    go_wp2_with fail
    refine (treeKnown _).mono ?_
    rintro e wb ⟨rfl, hb⟩
    have hc := cell_stays hb HCc.out
    have V1 := Lib.hid (V1.out.stays hb)
    have P1 := Lib.hid (P1.out.stays hb)
    have YB := Lib.hid (YB.out.stays hb)
    have V4 := Lib.hid (V4.out.stays hb)
    have Rb := Lib.hid (Ra.out.trans (hb.mono hsa))
    have hsb := Rb.out.size
    clear hb
    go_wp2_with fail
    refine (refSame_true V4.out V1.out rfl).mono ?_
    rintro e wz ⟨rfl, rfl⟩
    go_wp2_with fail
    refine (check_any _ N z _ _ _ _ _ _ _ _ _ _ _ _ V1.out YB.out P1.out hz2 (by omega) hn3 HP.out).mono ?_
    rintro e wc ⟨rfl, hb⟩
    rw [HK.out]
    have Rc := Lib.hid (Rb.out.trans (hb.mono hsb))
    clear hb
    go_wp2
    go_ret
    exact ⟨rfl, Rc.out⟩
  · rw [HC.out] at hr
    cases hr
end Go.Proofs.Ytahphlcahaheiaa
