/- KdfPrefixes: the walk. -/
import Derived.Test.YticknkaohjkjpaaKdfK
import Derived.Test.YticknkaohjkjpaaWithW
namespace Go.Proofs.Yticknkaohjkjpaa
open Go.RowKit

set_option maxRecDepth 100000 in
set_option maxHeartbeats 8000000 in
theorem kdfPrefixes_walk (A : Option Addr) (n c : Nat) (key : List UInt8) (A2 : Option Addr) (n2 c2 : Nat) (info : List UInt8) (a b : Int) (w : World) (h : Bytes w A n c key) (h2 : Bytes w A2 n2 c2 info) :
    Calls Try.prog 8 #[.slice A n c, .slice A2 n2 c2, .int .i64 a, .int .i64 b] w fun e w' => e = .returned (.bool true) ∧ Below w.heap.size w w' := by
  have q1 := h.le
  have q2 := h.cap
  have q3 := h2.le
  have q4 := h2.cap
  have KB := Lib.hid h
  have IB := Lib.hid h2
  clear h h2
  by_cases hn : 100 < n
  · have hni : (n : Int) > 100 := by omega
    go_enter Try.func8, Try.ntmps8
    go_wp2_with fail
    refine (kdfKnown _).mono ?_
    rintro e w1 ⟨rfl, hb⟩
    go_wp2
    go_ret
    exact ⟨rfl, hb⟩
  have hni : ¬ (n : Int) > 100 := by omega
  by_cases hn2 : 100 < n2
  · have hni2 : (n2 : Int) > 100 := by omega
    go_enter Try.func8, Try.ntmps8
    go_wp2_with fail
    refine (kdfKnown _).mono ?_
    rintro e w1 ⟨rfl, hb⟩
    go_wp2
    go_ret
    exact ⟨rfl, hb⟩
  have hni2 : ¬ (n2 : Int) > 100 := by omega
  go_enter Try.func8, Try.ntmps8
  go_wp2_with fail
  refine (within_any a 200 (by decide) (by decide) _).mono ?_
  rintro e w1 ⟨rfl, rfl⟩
  obtain ⟨x, hx, hx20⟩ : ∃ x : Nat, a % 200 = (x : Int) ∧ x < 200 := ⟨(a % 200).toNat, by omega, by omega⟩
  rw [hx]
  clear hx
  go_wp2_with fail
  refine (within_any b ((x : Int) + 1) (by omega) (by omega) _).mono ?_
  rintro e w1 ⟨rfl, rfl⟩
  obtain ⟨y, hy, hy20⟩ : ∃ y : Nat, b % ((x : Int) + 1) = (y : Int) ∧ y < x + 1 := ⟨(b % ((x : Int) + 1)).toNat, by have := Int.emod_nonneg b (show ((x : Int) + 1) ≠ 0 by omega); omega, by have := Int.emod_nonneg b (show ((x : Int) + 1) ≠ 0 by omega); have := Int.emod_lt_of_pos b (show 0 < ((x : Int) + 1) by omega); omega⟩
  rw [hy]
  clear hy
  go_wp2_with fail
  refine (expand_any _ _ _ _ _ _ _ _ x _ KB.out IB.out (by omega) (by omega)).mono ?_
  rintro e w1 ⟨A1, rfl, hv, hb⟩
  have hbx : Below w.heap.size w w1 := below_via (by go_grown) hb (by first | (simp; done) | (simp; omega))
  have KB := Lib.hid (KB.out.stays hbx)
  have IB := Lib.hid (IB.out.stays hbx)
  have V1 := Lib.hid hv
  have R1 := Lib.hid hbx
  have hs1 := R1.out.size
  clear hb hbx hv
  go_wp2_with fail
  refine (expand_any _ _ _ _ _ _ _ _ y _ KB.out IB.out (by omega) (by omega)).mono ?_
  rintro e w2 ⟨A2, rfl, hv, hb⟩
  have hbx : Below w1.heap.size w1 w2 := below_via (by go_grown) hb (by first | (simp; done) | (simp; omega))
  have KB := Lib.hid (KB.out.stays hbx)
  have IB := Lib.hid (IB.out.stays hbx)
  have V1 := Lib.hid (V1.out.stays hbx)
  have V2 := Lib.hid hv
  have R2 := Lib.hid (R1.out.trans (hbx.mono hs1))
  have hs2 := R2.out.size
  clear hb hbx hv
  clear R1
  go_wp2_with fail
  refine (kdfKnown _).mono ?_
  rintro e w3 ⟨rfl, hb⟩
  have hbx : Below w2.heap.size w2 w3 := below_via (by go_grown) hb (by first | (simp; done) | (simp; omega))
  have KB := Lib.hid (KB.out.stays hbx)
  have IB := Lib.hid (IB.out.stays hbx)
  have V1 := Lib.hid (V1.out.stays hbx)
  have V2 := Lib.hid (V2.out.stays hbx)
  have R3 := Lib.hid (R2.out.trans (hbx.mono hs2))
  have hs3 := R3.out.size
  clear hb hbx 
  clear R2
  have hcut := V1.out.cut0 y (by omega)
  rw [expandL_take key info x y (by omega)] at hcut
  have V3 := Lib.hid hcut
  clear hcut
  go_wp2_with fail
  refine (refSame_true V3.out V2.out rfl).mono ?_
  rintro e w4 ⟨rfl, rfl⟩
  go_wp2
  go_ret
  exact ⟨rfl, R3.out⟩
end Go.Proofs.Yticknkaohjkjpaa
