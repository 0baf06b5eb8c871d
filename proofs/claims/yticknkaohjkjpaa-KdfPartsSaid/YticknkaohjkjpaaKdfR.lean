/- KdfParts: the walk. -/
import Derived.Test.YticknkaohjkjpaaKdfK
import Derived.Test.YticknkaohjkjpaaKdfD
import Derived.Test.YticknkaohjkjpaaWithW
namespace Go.Proofs.Yticknkaohjkjpaa
open Go.RowKit

theorem labels_differ (x : List UInt8) : ¬ labelL (⟨#[97]⟩ : ByteArray).data.toList (⟨#[98, 99]⟩ : ByteArray).data.toList x = labelL (⟨#[97, 98]⟩ : ByteArray).data.toList (⟨#[99]⟩ : ByteArray).data.toList x := by
  intro h
  have := (labelL_inj [97] [98, 99] [97, 98] [99] x (by decide) (by decide) (by decide) (by decide)).1 h
  exact absurd this.1 (by decide)
set_option maxRecDepth 100000 in
set_option maxHeartbeats 2000000 in
theorem kdfParts_walk (A : Option Addr) (n c : Nat) (salt : List UInt8) (A2 : Option Addr) (n2 c2 : Nat) (sec : List UInt8) (A3 : Option Addr) (n3 c3 : Nat) (info : List UInt8) (a : Int) (w : World) (h : Bytes w A n c salt) (h2 : Bytes w A2 n2 c2 sec) (h3 : Bytes w A3 n3 c3 info) :
    Calls Try.prog 10 #[.slice A n c, .slice A2 n2 c2, .slice A3 n3 c3, .int .i64 a] w fun e w' => e = .returned (.bool true) ∧ Below w.heap.size w w' := by
  have q1 := h.le
  have q2 := h.cap
  have q3 := h2.le
  have q4 := h2.cap
  have q5 := h3.le
  have q6 := h3.cap
  have SB := Lib.hid h
  have KB := Lib.hid h2
  have IB := Lib.hid h3
  clear h h2 h3
  by_cases hn : 80 < n
  · have hni : (n : Int) > 80 := by omega
    go_enter Try.func10, Try.ntmps10
    go_wp2_with fail
    refine (kdfKnown _).mono ?_
    rintro e w1 ⟨rfl, hb⟩
    go_wp2
    go_ret
    exact ⟨rfl, hb⟩
  have hni : ¬ (n : Int) > 80 := by omega
  by_cases hn2 : 80 < n2
  · have hni2 : (n2 : Int) > 80 := by omega
    go_enter Try.func10, Try.ntmps10
    go_wp2_with fail
    refine (kdfKnown _).mono ?_
    rintro e w1 ⟨rfl, hb⟩
    go_wp2
    go_ret
    exact ⟨rfl, hb⟩
  have hni2 : ¬ (n2 : Int) > 80 := by omega
  by_cases hn3 : 80 < n3
  · have hni3 : (n3 : Int) > 80 := by omega
    go_enter Try.func10, Try.ntmps10
    go_wp2_with fail
    refine (kdfKnown _).mono ?_
    rintro e w1 ⟨rfl, hb⟩
    go_wp2
    go_ret
    exact ⟨rfl, hb⟩
  have hni3 : ¬ (n3 : Int) > 80 := by omega
  go_enter Try.func10, Try.ntmps10
  go_wp2_with fail
  refine (within_any a 100 (by decide) (by decide) _).mono ?_
  rintro e w1 ⟨rfl, rfl⟩
  obtain ⟨x, hx, hx20⟩ : ∃ x : Nat, a % 100 = (x : Int) ∧ x < 100 := ⟨(a % 100).toNat, by omega, by omega⟩
  rw [hx]
  clear hx
  go_wp2_with fail
  refine (derive_any _ _ _ _ _ _ _ _ _ _ _ _ x _ SB.out KB.out IB.out (by omega) (by omega) (by omega)).mono ?_
  rintro e w1 ⟨A4, c4, rfl, hv, hb⟩
  have hbx : Below w.heap.size w w1 := below_via (by go_grown) hb (by first | (simp; done) | (simp; omega))
  have SB := Lib.hid (SB.out.stays hbx)
  have KB := Lib.hid (KB.out.stays hbx)
  have IB := Lib.hid (IB.out.stays hbx)
  have V1 := Lib.hid hv
  have R1 := Lib.hid hbx
  have hs1 := R1.out.size
  clear hb hbx hv
  go_wp2_with fail
  refine (extract_any _ _ _ _ _ _ _ _ _ SB.out KB.out (by omega)).mono ?_
  rintro e w2 ⟨A5, c5, rfl, hv, hb⟩
  have hbx : Below w1.heap.size w1 w2 := below_via (by go_grown) hb (by first | (simp; done) | (simp; omega))
  have SB := Lib.hid (SB.out.stays hbx)
  have KB := Lib.hid (KB.out.stays hbx)
  have IB := Lib.hid (IB.out.stays hbx)
  have V1 := Lib.hid (V1.out.stays hbx)
  have V2 := Lib.hid hv
  have R2 := Lib.hid (R1.out.trans (hbx.mono hs1))
  have hs2 := R2.out.size
  clear hb hbx hv
  clear R1
  go_wp2_with fail
  refine (expand_any _ _ _ _ _ _ _ _ x _ V2.out IB.out (by omega) (by omega)).mono ?_
  rintro e w3 ⟨A6, rfl, hv, hb⟩
  have hbx : Below w2.heap.size w2 w3 := below_via (by go_grown) hb (by first | (simp; done) | (simp; omega))
  have SB := Lib.hid (SB.out.stays hbx)
  have KB := Lib.hid (KB.out.stays hbx)
  have IB := Lib.hid (IB.out.stays hbx)
  have V1 := Lib.hid (V1.out.stays hbx)
  have V2 := Lib.hid (V2.out.stays hbx)
  have V3 := Lib.hid hv
  have R3 := Lib.hid (R2.out.trans (hbx.mono hs2))
  have hs3 := R3.out.size
  clear hb hbx hv
  clear R2
  go_wp2_with fail
  refine (label_any ⟨#[97]⟩ ⟨#[98, 99]⟩ _ _ _ _ _ IB.out (by decide) (by decide)).mono ?_
  rintro e w4 ⟨A7, c7, rfl, hv, hb⟩
  have hbx : Below w3.heap.size w3 w4 := below_via (by go_grown) hb (by first | (simp; done) | (simp; omega))
  have SB := Lib.hid (SB.out.stays hbx)
  have KB := Lib.hid (KB.out.stays hbx)
  have IB := Lib.hid (IB.out.stays hbx)
  have V1 := Lib.hid (V1.out.stays hbx)
  have V2 := Lib.hid (V2.out.stays hbx)
  have V3 := Lib.hid (V3.out.stays hbx)
  have L1 := Lib.hid hv
  have R4 := Lib.hid (R3.out.trans (hbx.mono hs3))
  have hs4 := R4.out.size
  clear hb hbx hv
  clear R3
  go_wp2_with fail
  refine (label_any ⟨#[97, 98]⟩ ⟨#[99]⟩ _ _ _ _ _ IB.out (by decide) (by decide)).mono ?_
  rintro e w5 ⟨A8, c8, rfl, hv, hb⟩
  have hbx : Below w4.heap.size w4 w5 := below_via (by go_grown) hb (by first | (simp; done) | (simp; omega))
  have SB := Lib.hid (SB.out.stays hbx)
  have KB := Lib.hid (KB.out.stays hbx)
  have IB := Lib.hid (IB.out.stays hbx)
  have V1 := Lib.hid (V1.out.stays hbx)
  have V2 := Lib.hid (V2.out.stays hbx)
  have V3 := Lib.hid (V3.out.stays hbx)
  have L1 := Lib.hid (L1.out.stays hbx)
  have L2 := Lib.hid hv
  have R5 := Lib.hid (R4.out.trans (hbx.mono hs4))
  have hs5 := R5.out.size
  clear hb hbx hv
  clear R4
  go_wp2_with fail
  refine (kdfKnown _).mono ?_
  rintro e w6 ⟨rfl, hb⟩
  have hbx : Below w5.heap.size w5 w6 := below_via (by go_grown) hb (by first | (simp; done) | (simp; omega))
  have SB := Lib.hid (SB.out.stays hbx)
  have KB := Lib.hid (KB.out.stays hbx)
  have IB := Lib.hid (IB.out.stays hbx)
  have V1 := Lib.hid (V1.out.stays hbx)
  have V2 := Lib.hid (V2.out.stays hbx)
  have V3 := Lib.hid (V3.out.stays hbx)
  have L1 := Lib.hid (L1.out.stays hbx)
  have L2 := Lib.hid (L2.out.stays hbx)
  have R6 := Lib.hid (R5.out.trans (hbx.mono hs5))
  have hs6 := R6.out.size
  clear hb hbx 
  clear R5
  go_wp2_with fail
  refine (refSame_true V1.out V3.out rfl).mono ?_
  rintro e w7 ⟨rfl, rfl⟩
  go_wp2_with fail
  refine (refSame_false L1.out L2.out (labels_differ info)).mono ?_
  rintro e w7 ⟨rfl, rfl⟩
  go_wp2
  go_ret
  exact ⟨rfl, R6.out⟩
end Go.Proofs.Yticknkaohjkjpaa
