/- HashEdges: the walk. -/
import Derived.Test.YticknkaohjkjpaaHashK
import Derived.Test.YticknkaohjkjpaaWithW
import Derived.Test.YticknkaohjkjpaaWBytes
namespace Go.Proofs.Yticknkaohjkjpaa
open Go.RowKit

set_option maxRecDepth 100000 in
set_option maxHeartbeats 8000000 in
theorem hashEdges_walk (k m : Int) (w : World) :
    Calls Try.prog 3 #[.int .i64 k, .int .i64 m] w fun e w' => e = .returned (.bool true) ∧ Below w.heap.size w w' := by
  go_enter Try.func3, Try.ntmps3
  go_wp2_with fail
  refine (within_any k 1000 (by decide) (by decide) _).mono ?_
  rintro e w1 ⟨rfl, rfl⟩
  go_wp2_with fail
  refine (within_any m 90 (by decide) (by decide) _).mono ?_
  rintro e w1 ⟨rfl, rfl⟩
  obtain ⟨x, hx, hx20⟩ : ∃ x : Nat, k % 1000 = (x : Int) ∧ x < 1000 := ⟨(k % 1000).toNat, by omega, by omega⟩
  obtain ⟨y, hy, hy20⟩ : ∃ y : Nat, m % 90 = (y : Int) ∧ y < 90 := ⟨(m % 90).toNat, by omega, by omega⟩
  rw [hx, hy]
  clear hx hy
  go_wp2_with fail
  rw [show (50 : Int) + (y : Int) = ((50 + y : Nat) : Int) by omega]
  refine (wbytes_any x (50 + y) _ (by omega) (by omega) (by omega)).mono ?_
  rintro e w1 ⟨A1, c1, rfl, hv, hb⟩
  have hbx : Below w.heap.size w w1 := below_via (by go_grown) hb (by simp)
  have B0 := Lib.hid hv
  have R1 := Lib.hid hbx
  have hs1 := R1.out.size
  clear hb hbx hv
  go_wp2_with fail
  refine (hashKnown _).mono ?_
  rintro e w2 ⟨rfl, hb⟩
  have hbx : Below w1.heap.size w1 w2 := below_via (by go_grown) hb (by simp)
  have B0 := Lib.hid (B0.out.stays hbx)
  have R2 := Lib.hid (R1.out.trans (hbx.mono hs1))
  have hs2 := R2.out.size
  clear hb hbx 
  clear R1
  go_wp2_with fail
  refine (sum_any _ _ _ _ _ B0.out).mono ?_
  rintro e w3 ⟨A2, c2, rfl, hv, hb⟩
  have hbx : Below w2.heap.size w2 w3 := below_via (by go_grown) hb (by simp)
  have B0 := Lib.hid (B0.out.stays hbx)
  have V1 := Lib.hid (show Bytes _ _ _ _ _ from own_rd hv)
  have R3 := Lib.hid (R2.out.trans (hbx.mono hs2))
  have hs3 := R3.out.size
  clear hb hbx 
  clear R2
  go_wp2_with fail
  refine (refSum_any _ _ _ _ _ B0.out).mono ?_
  rintro e w4 ⟨A3, c3, rfl, hv2, hb⟩
  have hbx : Below w3.heap.size w3 w4 := below_via (by go_grown) hb (by simp)
  have B0 := Lib.hid (B0.out.stays hbx)
  have V1 := Lib.hid (V1.out.stays hbx)
  have V2 := Lib.hid (show Bytes _ _ _ _ _ from own_rd hv2)
  have R4 := Lib.hid (R3.out.trans (hbx.mono hs3))
  have hs4 := R4.out.size
  clear hb hbx 
  clear R3
  go_wp2_with fail
  refine (refSame_true V1.out V2.out rfl).mono ?_
  rintro e w5 ⟨rfl, rfl⟩
  go_wp2
  go_ret
  exact ⟨rfl, R4.out⟩
end Go.Proofs.Yticknkaohjkjpaa
