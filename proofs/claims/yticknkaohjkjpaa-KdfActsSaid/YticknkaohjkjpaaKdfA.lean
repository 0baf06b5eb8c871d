/- KdfActs: the walk. -/
import Derived.Test.YticknkaohjkjpaaKdfK
import Derived.Test.YticknkaohjkjpaaKdfD
import Derived.Test.YticknkaohjkjpaaWithW
namespace Go.Proofs.Yticknkaohjkjpaa
open Go.RowKit

set_option maxRecDepth 100000 in
set_option maxHeartbeats 2000000 in
theorem kdfActs_walk (A : Option Addr) (n c : Nat) (key : List UInt8) (A2 : Option Addr) (n2 c2 : Nat) (b : List UInt8) (a : Int) (s : ByteArray) (w : World) (h : Bytes w A n c key) (h2 : Bytes w A2 n2 c2 b) (ws : s.size ≤ 9223372036854775807) :
    Calls Try.prog 9 #[.slice A n c, .slice A2 n2 c2, .int .i64 a, .string s] w fun e w' => e = .returned (.bool true) ∧ Below w.heap.size w w' := by
  have q1 := h.le
  have q2 := h.cap
  have q3 := h2.le
  have q4 := h2.cap
  have KB := Lib.hid h
  have BB := Lib.hid h2
  clear h h2
  by_cases hnn : 150 < n
  · have hnin : (n : Int) > 150 := by omega
    go_enter Try.func9, Try.ntmps9
    go_wp2_with fail
    refine (kdfKnown _).mono ?_
    rintro e w1 ⟨rfl, hb⟩
    go_wp2
    go_ret
    exact ⟨rfl, hb⟩
  have hnin : ¬ (n : Int) > 150 := by omega
  by_cases hnn2 : 150 < n2
  · have hnin2 : (n2 : Int) > 150 := by omega
    go_enter Try.func9, Try.ntmps9
    go_wp2_with fail
    refine (kdfKnown _).mono ?_
    rintro e w1 ⟨rfl, hb⟩
    go_wp2
    go_ret
    exact ⟨rfl, hb⟩
  have hnin2 : ¬ (n2 : Int) > 150 := by omega
  by_cases hns : 60 < s.size
  · have hnis : (s.size : Int) > 60 := by omega
    go_enter Try.func9, Try.ntmps9
    go_wp2_with fail
    refine (kdfKnown _).mono ?_
    rintro e w1 ⟨rfl, hb⟩
    go_wp2
    go_ret
    exact ⟨rfl, hb⟩
  have hnis : ¬ (s.size : Int) > 60 := by omega
  by_cases hm : a > 300 ∧ a ≤ 8160
  · obtain ⟨hm1, hm2⟩ := hm
    go_enter Try.func9, Try.ntmps9
    go_wp2_with fail
    refine (kdfKnown _).mono ?_
    rintro e w1 ⟨rfl, hb⟩
    go_wp2
    go_ret
    exact ⟨rfl, hb⟩
  by_cases hlo : 0 ≤ a ∧ a ≤ 300
  · obtain ⟨x, rfl⟩ := Int.eq_ofNat_of_zero_le hlo.1
    have hx : x ≤ 300 := by omega
    have hxi : ¬ (x : Int) > 300 := by omega
    clear hm hlo
    go_enter Try.func9, Try.ntmps9
    go_wp2_with fail
    refine (expand_any _ _ _ _ _ _ _ _ x _ KB.out BB.out (by omega) (by omega)).mono ?_
    rintro e w1 ⟨A3, rfl, hv, hb⟩
    have hbx : Below w.heap.size w w1 := below_via (by go_grown) hb (by first | (simp; done) | (simp; omega))
    have KB := Lib.hid (KB.out.stays hbx)
    have BB := Lib.hid (BB.out.stays hbx)
    have V1 := Lib.hid hv
    have R1 := Lib.hid hbx
    have hs1 := R1.out.size
    clear hb hbx hv
    go_wp2_with fail
    refine (refExpand_any _ _ _ _ _ _ _ _ x _ KB.out BB.out (by omega) (by omega)).mono ?_
    rintro e w2 ⟨A4, c4, rfl, hv, hb⟩
    have hbx : Below w1.heap.size w1 w2 := below_via (by go_grown) hb (by first | (simp; done) | (simp; omega))
    have KB := Lib.hid (KB.out.stays hbx)
    have BB := Lib.hid (BB.out.stays hbx)
    have V1 := Lib.hid (V1.out.stays hbx)
    have V2 := Lib.hid hv
    have R2 := Lib.hid (R1.out.trans (hbx.mono hs1))
    have hs2 := R2.out.size
    clear hb hbx hv
    clear R1
    have hcv := fun (W : World) => Lib.run_convert_string_bytes (P := Try.prog) W 9 22 5 s Try.underlying9 Try.underlying22 Try.underlying5
    go_wp2_with fail
    clear hcv
    have kc := conv_below w2 5 s
    have SBc := Lib.hid (conv_reads w2 5 s (by unfold maxLen; omega))
    obtain ⟨wcS1, hwc⟩ : ∃ x, x = Lib.bytesWorld w2 5 s := ⟨_, rfl⟩
    rw [← hwc] at kc SBc ⊢
    have KB := Lib.hid (KB.out.stays kc)
    have BB := Lib.hid (BB.out.stays kc)
    have V1 := Lib.hid (V1.out.stays kc)
    have V2 := Lib.hid (V2.out.stays kc)
    have RS1 := Lib.hid (R2.out.trans (kc.mono hs2))
    clear R2 kc hwc
    have hs30 := RS1.out.size
    refine (derive_any _ _ _ _ _ _ _ _ _ _ _ _ x _ KB.out BB.out SBc.out (by omega) (by omega) (by omega)).mono ?_
    rintro e w3 ⟨Ad, cd, rfl, hv, hb⟩
    have KB := Lib.hid (KB.out.stays hb)
    have BB := Lib.hid (BB.out.stays hb)
    have V1 := Lib.hid (V1.out.stays hb)
    have V2 := Lib.hid (V2.out.stays hb)
    have V3 := Lib.hid hv
    clear hv
    have R3 := Lib.hid (RS1.out.trans (hb.mono hs30))
    have hs3 := R3.out.size
    clear hb RS1 SBc
    have hcv := fun (W : World) => Lib.run_convert_string_bytes (P := Try.prog) W 9 22 5 s Try.underlying9 Try.underlying22 Try.underlying5
    go_wp2_with fail
    clear hcv
    have kc := conv_below w3 5 s
    have SBc := Lib.hid (conv_reads w3 5 s (by unfold maxLen; omega))
    obtain ⟨wcS2, hwc⟩ : ∃ x, x = Lib.bytesWorld w3 5 s := ⟨_, rfl⟩
    rw [← hwc] at kc SBc ⊢
    have KB := Lib.hid (KB.out.stays kc)
    have BB := Lib.hid (BB.out.stays kc)
    have V1 := Lib.hid (V1.out.stays kc)
    have V2 := Lib.hid (V2.out.stays kc)
    have V3 := Lib.hid (V3.out.stays kc)
    have RS2 := Lib.hid (R3.out.trans (kc.mono hs3))
    clear R3 kc hwc
    have hs40 := RS2.out.size
    refine (refDerive_any _ _ _ _ _ _ _ _ _ _ _ _ x _ KB.out BB.out SBc.out (by omega) (by omega) (by omega)).mono ?_
    rintro e w4 ⟨Ad, cd, rfl, hv, hb⟩
    have KB := Lib.hid (KB.out.stays hb)
    have BB := Lib.hid (BB.out.stays hb)
    have V1 := Lib.hid (V1.out.stays hb)
    have V2 := Lib.hid (V2.out.stays hb)
    have V3 := Lib.hid (V3.out.stays hb)
    have V4 := Lib.hid hv
    clear hv
    have R4 := Lib.hid (RS2.out.trans (hb.mono hs40))
    have hs4 := R4.out.size
    clear hb RS2 SBc
    go_wp2_with fail
    refine (kdfKnown _).mono ?_
    rintro e w5 ⟨rfl, hb⟩
    have hbx : Below w4.heap.size w4 w5 := below_via (by go_grown) hb (by first | (simp; done) | (simp; omega))
    have KB := Lib.hid (KB.out.stays hbx)
    have BB := Lib.hid (BB.out.stays hbx)
    have V1 := Lib.hid (V1.out.stays hbx)
    have V2 := Lib.hid (V2.out.stays hbx)
    have V3 := Lib.hid (V3.out.stays hbx)
    have V4 := Lib.hid (V4.out.stays hbx)
    have R5 := Lib.hid (R4.out.trans (hbx.mono hs4))
    have hs5 := R5.out.size
    clear hb hbx 
    clear R4
    go_wp2_with fail
    refine (mac_any _ _ _ _ _ _ _ _ _ KB.out BB.out (by omega)).mono ?_
    rintro e w6 ⟨Ae, ce, rfl, hv, hb⟩
    have hbx : Below w5.heap.size w5 w6 := below_via (by go_grown) hb (by first | (simp; done) | (simp; omega))
    have KB := Lib.hid (KB.out.stays hbx)
    have BB := Lib.hid (BB.out.stays hbx)
    have V1 := Lib.hid (V1.out.stays hbx)
    have V2 := Lib.hid (V2.out.stays hbx)
    have V3 := Lib.hid (V3.out.stays hbx)
    have V4 := Lib.hid (V4.out.stays hbx)
    have M1 := Lib.hid (show Bytes _ _ _ _ _ from own_rd hv)
    have R6 := Lib.hid (R5.out.trans (hbx.mono hs5))
    have hs6 := R6.out.size
    clear hb hbx 
    clear R5
    clear hv
    go_wp2_with fail
    refine (refMac_any _ _ _ _ _ _ _ _ _ KB.out BB.out (by omega)).mono ?_
    rintro e w7 ⟨Af, cf, rfl, hv, hb⟩
    have hbx : Below w6.heap.size w6 w7 := below_via (by go_grown) hb (by first | (simp; done) | (simp; omega))
    have KB := Lib.hid (KB.out.stays hbx)
    have BB := Lib.hid (BB.out.stays hbx)
    have V1 := Lib.hid (V1.out.stays hbx)
    have V2 := Lib.hid (V2.out.stays hbx)
    have V3 := Lib.hid (V3.out.stays hbx)
    have V4 := Lib.hid (V4.out.stays hbx)
    have M1 := Lib.hid (M1.out.stays hbx)
    have M2 := Lib.hid (show Bytes _ _ _ _ _ from own_rd hv)
    have R7 := Lib.hid (R6.out.trans (hbx.mono hs6))
    have hs7 := R7.out.size
    clear hb hbx 
    clear R6
    clear hv
    go_wp2_with fail
    refine (refSame_true M1.out M2.out rfl).mono ?_
    rintro e w8 ⟨rfl, rfl⟩
    clear M1 M2
    go_wp2_with fail
    refine (extract_any _ _ _ _ _ _ _ _ _ KB.out BB.out (by omega)).mono ?_
    rintro e w8 ⟨Ag, cg, rfl, hv, hb⟩
    have hbx : Below w7.heap.size w7 w8 := below_via (by go_grown) hb (by first | (simp; done) | (simp; omega))
    have KB := Lib.hid (KB.out.stays hbx)
    have BB := Lib.hid (BB.out.stays hbx)
    have V1 := Lib.hid (V1.out.stays hbx)
    have V2 := Lib.hid (V2.out.stays hbx)
    have V3 := Lib.hid (V3.out.stays hbx)
    have V4 := Lib.hid (V4.out.stays hbx)
    have M1 := Lib.hid hv
    have R8 := Lib.hid (R7.out.trans (hbx.mono hs7))
    have hs8 := R8.out.size
    clear hb hbx hv
    clear R7
    go_wp2_with fail
    refine (refExtract_any _ _ _ _ _ _ _ _ _ KB.out BB.out (by omega)).mono ?_
    rintro e w9 ⟨Ah, ch, rfl, hv, hb⟩
    have hbx : Below w8.heap.size w8 w9 := below_via (by go_grown) hb (by first | (simp; done) | (simp; omega))
    have KB := Lib.hid (KB.out.stays hbx)
    have BB := Lib.hid (BB.out.stays hbx)
    have V1 := Lib.hid (V1.out.stays hbx)
    have V2 := Lib.hid (V2.out.stays hbx)
    have V3 := Lib.hid (V3.out.stays hbx)
    have V4 := Lib.hid (V4.out.stays hbx)
    have M1 := Lib.hid (M1.out.stays hbx)
    have M2 := Lib.hid hv
    have R9 := Lib.hid (R8.out.trans (hbx.mono hs8))
    have hs9 := R9.out.size
    clear hb hbx hv
    clear R8
    go_wp2_with fail
    refine (refSame_true M1.out M2.out rfl).mono ?_
    rintro e w10 ⟨rfl, rfl⟩
    clear M1 M2
    go_wp2_with fail
    refine (refSame_true V1.out V2.out rfl).mono ?_
    rintro e w10 ⟨rfl, rfl⟩
    go_wp2_with fail
    refine (refSame_true V3.out V4.out rfl).mono ?_
    rintro e w10 ⟨rfl, rfl⟩
    go_wp2_with fail
    refine (label_any s s _ _ _ _ _ BB.out (by omega) (by omega)).mono ?_
    rintro e w10 ⟨Ai, ci, rfl, hv, hb⟩
    have hbx : Below w9.heap.size w9 w10 := below_via (by go_grown) hb (by first | (simp; done) | (simp; omega))
    have KB := Lib.hid (KB.out.stays hbx)
    have BB := Lib.hid (BB.out.stays hbx)
    have V1 := Lib.hid (V1.out.stays hbx)
    have V2 := Lib.hid (V2.out.stays hbx)
    have V3 := Lib.hid (V3.out.stays hbx)
    have V4 := Lib.hid (V4.out.stays hbx)
    have M1 := Lib.hid hv
    have R10 := Lib.hid (R9.out.trans (hbx.mono hs9))
    have hs10 := R10.out.size
    clear hb hbx hv
    clear R9
    go_wp2_with fail
    refine (refLabel_any s s _ _ _ _ _ BB.out (by omega) (by omega)).mono ?_
    rintro e w11 ⟨Aj, cj, rfl, hv, hb⟩
    have hbx : Below w10.heap.size w10 w11 := below_via (by go_grown) hb (by first | (simp; done) | (simp; omega))
    have KB := Lib.hid (KB.out.stays hbx)
    have BB := Lib.hid (BB.out.stays hbx)
    have V1 := Lib.hid (V1.out.stays hbx)
    have V2 := Lib.hid (V2.out.stays hbx)
    have V3 := Lib.hid (V3.out.stays hbx)
    have V4 := Lib.hid (V4.out.stays hbx)
    have M1 := Lib.hid (M1.out.stays hbx)
    have M2 := Lib.hid hv
    have R11 := Lib.hid (R10.out.trans (hbx.mono hs10))
    have hs11 := R11.out.size
    clear hb hbx hv
    clear R10
    go_wp2_with fail
    refine (refSame_true M1.out M2.out rfl).mono ?_
    rintro e w12 ⟨rfl, rfl⟩
    go_wp2
    go_ret
    exact ⟨rfl, R11.out⟩
  have hm3 : a < 0 ∨ 8160 < a := by omega
  have HM := Lib.hid hm3
  by_cases ha : a > 300
  · have ha2 : ¬ a ≤ 8160 := by omega
    clear hm hm3 hlo
    go_enter Try.func9, Try.ntmps9
    go_wp2_with fail
    refine (expand_err _ _ _ _ _ _ a _ HM.out).mono ?_
    rintro e w1 ⟨rfl, hb⟩
    have hbx : Below w.heap.size w w1 := below_via (by go_grown) hb (by first | (simp; done) | (simp; omega))
    have KB := Lib.hid (KB.out.stays hbx)
    have BB := Lib.hid (BB.out.stays hbx)
    have R1 := Lib.hid hbx
    have hs1 := R1.out.size
    clear hb hbx 
    go_wp2_with fail
    refine (refExpand_err _ _ _ _ _ _ a _ HM.out).mono ?_
    rintro e w2 ⟨rfl, hb⟩
    have hbx : Below w1.heap.size w1 w2 := below_via (by go_grown) hb (by first | (simp; done) | (simp; omega))
    have KB := Lib.hid (KB.out.stays hbx)
    have BB := Lib.hid (BB.out.stays hbx)
    have R2 := Lib.hid (R1.out.trans (hbx.mono hs1))
    have hs2 := R2.out.size
    clear hb hbx 
    clear R1
    have hcv := fun (W : World) => Lib.run_convert_string_bytes (P := Try.prog) W 9 22 5 s Try.underlying9 Try.underlying22 Try.underlying5
    go_wp2_with fail
    clear hcv
    have kc := conv_below w2 5 s
    have SBc := Lib.hid (conv_reads w2 5 s (by unfold maxLen; omega))
    obtain ⟨wcS1, hwc⟩ : ∃ x, x = Lib.bytesWorld w2 5 s := ⟨_, rfl⟩
    rw [← hwc] at kc SBc ⊢
    have KB := Lib.hid (KB.out.stays kc)
    have BB := Lib.hid (BB.out.stays kc)
    have RS1 := Lib.hid (R2.out.trans (kc.mono hs2))
    clear R2 kc hwc
    have hs30 := RS1.out.size
    refine (derive_err _ _ _ _ _ _ _ _ _ _ _ a _ KB.out BB.out (by omega) HM.out).mono ?_
    rintro e w3 ⟨rfl, hb⟩
    have KB := Lib.hid (KB.out.stays hb)
    have BB := Lib.hid (BB.out.stays hb)
    have R3 := Lib.hid (RS1.out.trans (hb.mono hs30))
    have hs3 := R3.out.size
    clear hb RS1 SBc
    have hcv := fun (W : World) => Lib.run_convert_string_bytes (P := Try.prog) W 9 22 5 s Try.underlying9 Try.underlying22 Try.underlying5
    go_wp2_with fail
    clear hcv
    have kc := conv_below w3 5 s
    have SBc := Lib.hid (conv_reads w3 5 s (by unfold maxLen; omega))
    obtain ⟨wcS2, hwc⟩ : ∃ x, x = Lib.bytesWorld w3 5 s := ⟨_, rfl⟩
    rw [← hwc] at kc SBc ⊢
    have KB := Lib.hid (KB.out.stays kc)
    have BB := Lib.hid (BB.out.stays kc)
    have RS2 := Lib.hid (R3.out.trans (kc.mono hs3))
    clear R3 kc hwc
    have hs40 := RS2.out.size
    refine (refDerive_err _ _ _ _ _ _ _ _ _ _ _ a _ KB.out BB.out (by omega) HM.out).mono ?_
    rintro e w4 ⟨rfl, hb⟩
    have KB := Lib.hid (KB.out.stays hb)
    have BB := Lib.hid (BB.out.stays hb)
    have R4 := Lib.hid (RS2.out.trans (hb.mono hs40))
    have hs4 := R4.out.size
    clear hb RS2 SBc
    go_wp2_with fail
    refine (kdfKnown _).mono ?_
    rintro e w5 ⟨rfl, hb⟩
    have hbx : Below w4.heap.size w4 w5 := below_via (by go_grown) hb (by first | (simp; done) | (simp; omega))
    have KB := Lib.hid (KB.out.stays hbx)
    have BB := Lib.hid (BB.out.stays hbx)
    have R5 := Lib.hid (R4.out.trans (hbx.mono hs4))
    have hs5 := R5.out.size
    clear hb hbx 
    clear R4
    go_wp2_with fail
    refine (mac_any _ _ _ _ _ _ _ _ _ KB.out BB.out (by omega)).mono ?_
    rintro e w6 ⟨Ae, ce, rfl, hv, hb⟩
    have hbx : Below w5.heap.size w5 w6 := below_via (by go_grown) hb (by first | (simp; done) | (simp; omega))
    have KB := Lib.hid (KB.out.stays hbx)
    have BB := Lib.hid (BB.out.stays hbx)
    have M1 := Lib.hid (show Bytes _ _ _ _ _ from own_rd hv)
    have R6 := Lib.hid (R5.out.trans (hbx.mono hs5))
    have hs6 := R6.out.size
    clear hb hbx 
    clear R5
    clear hv
    go_wp2_with fail
    refine (refMac_any _ _ _ _ _ _ _ _ _ KB.out BB.out (by omega)).mono ?_
    rintro e w7 ⟨Af, cf, rfl, hv, hb⟩
    have hbx : Below w6.heap.size w6 w7 := below_via (by go_grown) hb (by first | (simp; done) | (simp; omega))
    have KB := Lib.hid (KB.out.stays hbx)
    have BB := Lib.hid (BB.out.stays hbx)
    have M1 := Lib.hid (M1.out.stays hbx)
    have M2 := Lib.hid (show Bytes _ _ _ _ _ from own_rd hv)
    have R7 := Lib.hid (R6.out.trans (hbx.mono hs6))
    have hs7 := R7.out.size
    clear hb hbx 
    clear R6
    clear hv
    go_wp2_with fail
    refine (refSame_true M1.out M2.out rfl).mono ?_
    rintro e w8 ⟨rfl, rfl⟩
    clear M1 M2
    go_wp2_with fail
    refine (extract_any _ _ _ _ _ _ _ _ _ KB.out BB.out (by omega)).mono ?_
    rintro e w8 ⟨Ag, cg, rfl, hv, hb⟩
    have hbx : Below w7.heap.size w7 w8 := below_via (by go_grown) hb (by first | (simp; done) | (simp; omega))
    have KB := Lib.hid (KB.out.stays hbx)
    have BB := Lib.hid (BB.out.stays hbx)
    have M1 := Lib.hid hv
    have R8 := Lib.hid (R7.out.trans (hbx.mono hs7))
    have hs8 := R8.out.size
    clear hb hbx hv
    clear R7
    go_wp2_with fail
    refine (refExtract_any _ _ _ _ _ _ _ _ _ KB.out BB.out (by omega)).mono ?_
    rintro e w9 ⟨Ah, ch, rfl, hv, hb⟩
    have hbx : Below w8.heap.size w8 w9 := below_via (by go_grown) hb (by first | (simp; done) | (simp; omega))
    have KB := Lib.hid (KB.out.stays hbx)
    have BB := Lib.hid (BB.out.stays hbx)
    have M1 := Lib.hid (M1.out.stays hbx)
    have M2 := Lib.hid hv
    have R9 := Lib.hid (R8.out.trans (hbx.mono hs8))
    have hs9 := R9.out.size
    clear hb hbx hv
    clear R8
    go_wp2_with fail
    refine (refSame_true M1.out M2.out rfl).mono ?_
    rintro e w10 ⟨rfl, rfl⟩
    clear M1 M2
    go_wp2_with fail
    refine (refSame_true (Bytes.nil _ none 0 (by decide)) (Bytes.nil _ none 0 (by decide)) rfl).mono ?_
    rintro e w10 ⟨rfl, rfl⟩
    go_wp2_with fail
    refine (refSame_true (Bytes.nil _ none 0 (by decide)) (Bytes.nil _ none 0 (by decide)) rfl).mono ?_
    rintro e w10 ⟨rfl, rfl⟩
    go_wp2_with fail
    refine (label_any s s _ _ _ _ _ BB.out (by omega) (by omega)).mono ?_
    rintro e w10 ⟨Ai, ci, rfl, hv, hb⟩
    have hbx : Below w9.heap.size w9 w10 := below_via (by go_grown) hb (by first | (simp; done) | (simp; omega))
    have KB := Lib.hid (KB.out.stays hbx)
    have BB := Lib.hid (BB.out.stays hbx)
    have M1 := Lib.hid hv
    have R10 := Lib.hid (R9.out.trans (hbx.mono hs9))
    have hs10 := R10.out.size
    clear hb hbx hv
    clear R9
    go_wp2_with fail
    refine (refLabel_any s s _ _ _ _ _ BB.out (by omega) (by omega)).mono ?_
    rintro e w11 ⟨Aj, cj, rfl, hv, hb⟩
    have hbx : Below w10.heap.size w10 w11 := below_via (by go_grown) hb (by first | (simp; done) | (simp; omega))
    have KB := Lib.hid (KB.out.stays hbx)
    have BB := Lib.hid (BB.out.stays hbx)
    have M1 := Lib.hid (M1.out.stays hbx)
    have M2 := Lib.hid hv
    have R11 := Lib.hid (R10.out.trans (hbx.mono hs10))
    have hs11 := R11.out.size
    clear hb hbx hv
    clear R10
    go_wp2_with fail
    refine (refSame_true M1.out M2.out rfl).mono ?_
    rintro e w12 ⟨rfl, rfl⟩
    go_wp2
    go_ret
    exact ⟨rfl, R11.out⟩
  · clear hm hm3 hlo
    go_enter Try.func9, Try.ntmps9
    go_wp2_with fail
    refine (expand_err _ _ _ _ _ _ a _ HM.out).mono ?_
    rintro e w1 ⟨rfl, hb⟩
    have hbx : Below w.heap.size w w1 := below_via (by go_grown) hb (by first | (simp; done) | (simp; omega))
    have KB := Lib.hid (KB.out.stays hbx)
    have BB := Lib.hid (BB.out.stays hbx)
    have R1 := Lib.hid hbx
    have hs1 := R1.out.size
    clear hb hbx 
    go_wp2_with fail
    refine (refExpand_err _ _ _ _ _ _ a _ HM.out).mono ?_
    rintro e w2 ⟨rfl, hb⟩
    have hbx : Below w1.heap.size w1 w2 := below_via (by go_grown) hb (by first | (simp; done) | (simp; omega))
    have KB := Lib.hid (KB.out.stays hbx)
    have BB := Lib.hid (BB.out.stays hbx)
    have R2 := Lib.hid (R1.out.trans (hbx.mono hs1))
    have hs2 := R2.out.size
    clear hb hbx 
    clear R1
    have hcv := fun (W : World) => Lib.run_convert_string_bytes (P := Try.prog) W 9 22 5 s Try.underlying9 Try.underlying22 Try.underlying5
    go_wp2_with fail
    clear hcv
    have kc := conv_below w2 5 s
    have SBc := Lib.hid (conv_reads w2 5 s (by unfold maxLen; omega))
    obtain ⟨wcS1, hwc⟩ : ∃ x, x = Lib.bytesWorld w2 5 s := ⟨_, rfl⟩
    rw [← hwc] at kc SBc ⊢
    have KB := Lib.hid (KB.out.stays kc)
    have BB := Lib.hid (BB.out.stays kc)
    have RS1 := Lib.hid (R2.out.trans (kc.mono hs2))
    clear R2 kc hwc
    have hs30 := RS1.out.size
    refine (derive_err _ _ _ _ _ _ _ _ _ _ _ a _ KB.out BB.out (by omega) HM.out).mono ?_
    rintro e w3 ⟨rfl, hb⟩
    have KB := Lib.hid (KB.out.stays hb)
    have BB := Lib.hid (BB.out.stays hb)
    have R3 := Lib.hid (RS1.out.trans (hb.mono hs30))
    have hs3 := R3.out.size
    clear hb RS1 SBc
    have hcv := fun (W : World) => Lib.run_convert_string_bytes (P := Try.prog) W 9 22 5 s Try.underlying9 Try.underlying22 Try.underlying5
    go_wp2_with fail
    clear hcv
    have kc := conv_below w3 5 s
    have SBc := Lib.hid (conv_reads w3 5 s (by unfold maxLen; omega))
    obtain ⟨wcS2, hwc⟩ : ∃ x, x = Lib.bytesWorld w3 5 s := ⟨_, rfl⟩
    rw [← hwc] at kc SBc ⊢
    have KB := Lib.hid (KB.out.stays kc)
    have BB := Lib.hid (BB.out.stays kc)
    have RS2 := Lib.hid (R3.out.trans (kc.mono hs3))
    clear R3 kc hwc
    have hs40 := RS2.out.size
    refine (refDerive_err _ _ _ _ _ _ _ _ _ _ _ a _ KB.out BB.out (by omega) HM.out).mono ?_
    rintro e w4 ⟨rfl, hb⟩
    have KB := Lib.hid (KB.out.stays hb)
    have BB := Lib.hid (BB.out.stays hb)
    have R4 := Lib.hid (RS2.out.trans (hb.mono hs40))
    have hs4 := R4.out.size
    clear hb RS2 SBc
    go_wp2_with fail
    refine (kdfKnown _).mono ?_
    rintro e w5 ⟨rfl, hb⟩
    have hbx : Below w4.heap.size w4 w5 := below_via (by go_grown) hb (by first | (simp; done) | (simp; omega))
    have KB := Lib.hid (KB.out.stays hbx)
    have BB := Lib.hid (BB.out.stays hbx)
    have R5 := Lib.hid (R4.out.trans (hbx.mono hs4))
    have hs5 := R5.out.size
    clear hb hbx 
    clear R4
    go_wp2_with fail
    refine (mac_any _ _ _ _ _ _ _ _ _ KB.out BB.out (by omega)).mono ?_
    rintro e w6 ⟨Ae, ce, rfl, hv, hb⟩
    have hbx : Below w5.heap.size w5 w6 := below_via (by go_grown) hb (by first | (simp; done) | (simp; omega))
    have KB := Lib.hid (KB.out.stays hbx)
    have BB := Lib.hid (BB.out.stays hbx)
    have M1 := Lib.hid (show Bytes _ _ _ _ _ from own_rd hv)
    have R6 := Lib.hid (R5.out.trans (hbx.mono hs5))
    have hs6 := R6.out.size
    clear hb hbx 
    clear R5
    clear hv
    go_wp2_with fail
    refine (refMac_any _ _ _ _ _ _ _ _ _ KB.out BB.out (by omega)).mono ?_
    rintro e w7 ⟨Af, cf, rfl, hv, hb⟩
    have hbx : Below w6.heap.size w6 w7 := below_via (by go_grown) hb (by first | (simp; done) | (simp; omega))
    have KB := Lib.hid (KB.out.stays hbx)
    have BB := Lib.hid (BB.out.stays hbx)
    have M1 := Lib.hid (M1.out.stays hbx)
    have M2 := Lib.hid (show Bytes _ _ _ _ _ from own_rd hv)
    have R7 := Lib.hid (R6.out.trans (hbx.mono hs6))
    have hs7 := R7.out.size
    clear hb hbx 
    clear R6
    clear hv
    go_wp2_with fail
    refine (refSame_true M1.out M2.out rfl).mono ?_
    rintro e w8 ⟨rfl, rfl⟩
    clear M1 M2
    go_wp2_with fail
    refine (extract_any _ _ _ _ _ _ _ _ _ KB.out BB.out (by omega)).mono ?_
    rintro e w8 ⟨Ag, cg, rfl, hv, hb⟩
    have hbx : Below w7.heap.size w7 w8 := below_via (by go_grown) hb (by first | (simp; done) | (simp; omega))
    have KB := Lib.hid (KB.out.stays hbx)
    have BB := Lib.hid (BB.out.stays hbx)
    have M1 := Lib.hid hv
    have R8 := Lib.hid (R7.out.trans (hbx.mono hs7))
    have hs8 := R8.out.size
    clear hb hbx hv
    clear R7
    go_wp2_with fail
    refine (refExtract_any _ _ _ _ _ _ _ _ _ KB.out BB.out (by omega)).mono ?_
    rintro e w9 ⟨Ah, ch, rfl, hv, hb⟩
    have hbx : Below w8.heap.size w8 w9 := below_via (by go_grown) hb (by first | (simp; done) | (simp; omega))
    have KB := Lib.hid (KB.out.stays hbx)
    have BB := Lib.hid (BB.out.stays hbx)
    have M1 := Lib.hid (M1.out.stays hbx)
    have M2 := Lib.hid hv
    have R9 := Lib.hid (R8.out.trans (hbx.mono hs8))
    have hs9 := R9.out.size
    clear hb hbx hv
    clear R8
    go_wp2_with fail
    refine (refSame_true M1.out M2.out rfl).mono ?_
    rintro e w10 ⟨rfl, rfl⟩
    clear M1 M2
    go_wp2_with fail
    refine (refSame_true (Bytes.nil _ none 0 (by decide)) (Bytes.nil _ none 0 (by decide)) rfl).mono ?_
    rintro e w10 ⟨rfl, rfl⟩
    go_wp2_with fail
    refine (refSame_true (Bytes.nil _ none 0 (by decide)) (Bytes.nil _ none 0 (by decide)) rfl).mono ?_
    rintro e w10 ⟨rfl, rfl⟩
    go_wp2_with fail
    refine (label_any s s _ _ _ _ _ BB.out (by omega) (by omega)).mono ?_
    rintro e w10 ⟨Ai, ci, rfl, hv, hb⟩
    have hbx : Below w9.heap.size w9 w10 := below_via (by go_grown) hb (by first | (simp; done) | (simp; omega))
    have KB := Lib.hid (KB.out.stays hbx)
    have BB := Lib.hid (BB.out.stays hbx)
    have M1 := Lib.hid hv
    have R10 := Lib.hid (R9.out.trans (hbx.mono hs9))
    have hs10 := R10.out.size
    clear hb hbx hv
    clear R9
    go_wp2_with fail
    refine (refLabel_any s s _ _ _ _ _ BB.out (by omega) (by omega)).mono ?_
    rintro e w11 ⟨Aj, cj, rfl, hv, hb⟩
    have hbx : Below w10.heap.size w10 w11 := below_via (by go_grown) hb (by first | (simp; done) | (simp; omega))
    have KB := Lib.hid (KB.out.stays hbx)
    have BB := Lib.hid (BB.out.stays hbx)
    have M1 := Lib.hid (M1.out.stays hbx)
    have M2 := Lib.hid hv
    have R11 := Lib.hid (R10.out.trans (hbx.mono hs10))
    have hs11 := R11.out.size
    clear hb hbx hv
    clear R10
    go_wp2_with fail
    refine (refSame_true M1.out M2.out rfl).mono ?_
    rintro e w12 ⟨rfl, rfl⟩
    go_wp2
    go_ret
    exact ⟨rfl, R11.out⟩
end Go.Proofs.Yticknkaohjkjpaa
