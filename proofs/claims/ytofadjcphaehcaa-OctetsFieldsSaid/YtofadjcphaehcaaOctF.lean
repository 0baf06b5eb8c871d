/- OctetsFields: the walk. -/
import Derived.Test.YtofadjcphaehcaaFieldsR
import Derived.Test.YtofadjcphaehcaaSameF
import Derived.Test.YtofadjcphaehcaaWriteR
import Derived.Test.YtofadjcphaehcaaOctK
namespace Go.Proofs.Ytofadjcphaehcaa
open Go.RowKit

set_option maxRecDepth 100000 in
set_option maxHeartbeats 4000000 in
theorem octetsFields_walk (A0 : Option Addr) (n0 c0 : Nat) (fs : List (Int × List UInt8)) (A1 : Option Addr) (n1 c1 : Nat) (b : List UInt8) (w : World) (h0 : FldL w A0 n0 c0 fs) (h1 : Bytes w A1 n1 c1 b) :
    Calls Try.prog 9 #[.slice A0 n0 c0, .slice A1 n1 c1] w fun e w' => e = .returned (.bool true) ∧ Below w.heap.size w w' := by
  have q1 := h0.le
  have q2 := h0.cap
  have q3 := h1.le
  have q4 := h1.cap
  by_cases hn : 10 < n0
  · have hni : (n0 : Int) > 10 := by omega
    clear h0 h1
    go_enter Try.func9, Try.ntmps9
    go_wp2_with fail
    refine (octKnown _).mono ?_
    rintro e wk ⟨rfl, hb⟩
    go_wp2
    go_ret
    exact ⟨rfl, hb⟩
  have hni : ¬ (n0 : Int) > 10 := by omega
  by_cases hm : 300 < n1
  · have hmi : (n1 : Int) > 300 := by omega
    clear h0 h1
    go_enter Try.func9, Try.ntmps9
    go_wp2_with fail
    refine (octKnown _).mono ?_
    rintro e wk ⟨rfl, hb⟩
    go_wp2
    go_ret
    exact ⟨rfl, hb⟩
  have hmi : ¬ (n1 : Int) > 300 := by omega
  have FF := Lib.hid h0
  have BB := Lib.hid h1
  clear h0 h1
  generalize hR : writeL fs [] = R
  have HR := Lib.hid hR
  clear hR
  go_enter Try.func9, Try.ntmps9
  go_wp2
  go_loop [5] (fun i => ∃ k : Nat, k ≤ n0 ∧ i = .int .i64 k) (fun i => n0 - (intOf i).toNat)
  case atStart => exact ⟨0, Nat.zero_le _, rfl⟩
  case round =>
    obtain ⟨k, hk, rfl⟩ := hrel
    by_cases hkn : k < n0
    · have hki : (k : Int) < (n0 : Int) := by omega
      obtain ⟨bb, off, A', n', c', rfl, hc0, hc1, hy⟩ := FF.out.at_ hkn
      have hyl := hy.le
      have hyc := hy.cap
      clear hy
      by_cases ha : 100 < n'
      · have ha1 : (n' : Int) > 100 := by omega
        by_cases hb : n' ≤ 65535
        · have hb1 : (n' : Int) ≤ 65535 := by omega
          go_wp2_with fail
          refine (octKnown _).mono ?_
          rintro e wk ⟨rfl, hb⟩
          go_wp2
          go_ret
          exact ⟨rfl, hb⟩
        · have hb1 : ¬ (n' : Int) ≤ 65535 := by omega
          by_cases hd : 65600 < n'
          · have hd1 : (n' : Int) > 65600 := by omega
            go_wp2_with fail
            refine (octKnown _).mono ?_
            rintro e wk ⟨rfl, hb⟩
            go_wp2
            go_ret
            exact ⟨rfl, hb⟩
          · have hd1 : ¬ (n' : Int) > 65600 := by omega
            go_wp2
            go_round
            case rel => exact ⟨k + 1, by omega, by go_num⟩
            case measure => simp [intOf]; omega
      · have ha1 : ¬ (n' : Int) > 100 := by omega
        have hd1 : ¬ (n' : Int) > 65600 := by omega
        go_wp2
        go_round
        case rel => exact ⟨k + 1, by omega, by go_num⟩
        case measure => simp [intOf]; omega
    · obtain rfl : k = n0 := by omega
      cases hF : fldF n1 b with
      | some gs =>
        have HF := Lib.hid hF
        clear hF
        go_wp2_with fail
        refine (write_any _ _ _ _ _ FF.out).mono ?_
        rintro e w1 ⟨A2, n2, c2, rfl, hv, hb⟩
        have hbx : Below w.heap.size w w1 := below_via (by go_grown) hb (by first | (simp; done) | (simp; omega))
        have BB := Lib.hid (BB.out.stays hbx)
        have FF := Lib.hid (FF.out.stays hbx)
        have X1 := Lib.hid hv
        have R1 := Lib.hid hbx
        have hs1 := R1.out.size
        clear hb hbx hv
        rw [HR.out] at X1 ⊢
        go_wp2_with fail
        refine (refWrite_any _ _ _ _ _ FF.out).mono ?_
        rintro e w2 ⟨A3, n3, c3, rfl, hv, hb⟩
        have hbx : Below w1.heap.size w1 w2 := below_via (by go_grown) hb (by first | (simp; done) | (simp; omega))
        have BB := Lib.hid (BB.out.stays hbx)
        have FF := Lib.hid (FF.out.stays hbx)
        have X1 := Lib.hid (X1.out.stays hbx)
        have X2 := Lib.hid hv
        have R2 := Lib.hid (R1.out.trans (hbx.mono hs1))
        have hs2 := R2.out.size
        clear hb hbx hv
        clear R1
        rw [HR.out] at X2 ⊢
        go_wp2_with fail
        refine (fields_ok _ _ _ _ _ _ BB.out (by omega) HF.out).mono ?_
        rintro e w3 ⟨A4, m4, c4, rfl, hv, hb⟩
        have hbx : Below w2.heap.size w2 w3 := below_via (by go_grown) hb (by first | (simp; done) | (simp; omega))
        have BB := Lib.hid (BB.out.stays hbx)
        have FF := Lib.hid (FF.out.stays hbx)
        have X1 := Lib.hid (X1.out.stays hbx)
        have X2 := Lib.hid (X2.out.stays hbx)
        have Y1 := Lib.hid hv
        have R3 := Lib.hid (R2.out.trans (hbx.mono hs2))
        have hs3 := R3.out.size
        clear hb hbx hv
        clear R2
        go_wp2_with fail
        refine (refFields_ok _ _ _ _ _ _ BB.out (by omega) HF.out).mono ?_
        rintro e w4 ⟨A5, m5, c5, rfl, hv, hb⟩
        have hbx : Below w3.heap.size w3 w4 := below_via (by go_grown) hb (by first | (simp; done) | (simp; omega))
        have BB := Lib.hid (BB.out.stays hbx)
        have FF := Lib.hid (FF.out.stays hbx)
        have X1 := Lib.hid (X1.out.stays hbx)
        have X2 := Lib.hid (X2.out.stays hbx)
        have Y1 := Lib.hid (Y1.out.stays hbx)
        have Y2 := Lib.hid hv
        have R4 := Lib.hid (R3.out.trans (hbx.mono hs3))
        have hs4 := R4.out.size
        clear hb hbx hv
        clear R3
        go_wp2_with fail
        refine (octKnown _).mono ?_
        rintro e w5 ⟨rfl, hb⟩
        have hbx : Below w4.heap.size w4 w5 := below_via (by go_grown) hb (by first | (simp; done) | (simp; omega))
        have BB := Lib.hid (BB.out.stays hbx)
        have FF := Lib.hid (FF.out.stays hbx)
        have X1 := Lib.hid (X1.out.stays hbx)
        have X2 := Lib.hid (X2.out.stays hbx)
        have Y1 := Lib.hid (Y1.out.stays hbx)
        have Y2 := Lib.hid (Y2.out.stays hbx)
        have R5 := Lib.hid (R4.out.trans (hbx.mono hs4))
        have hs5 := R5.out.size
        clear hb hbx 
        clear R4
        go_wp2_with fail
        refine (refSame_true X1.out X2.out rfl).mono ?_
        rintro e w6 ⟨rfl, rfl⟩
        go_wp2_with fail
        refine (sameFields_true Y1.out Y2.out rfl).mono ?_
        rintro e w6 ⟨rfl, hb⟩
        have hbx : Below w5.heap.size w5 w6 := below_via (by go_grown) hb (by first | (simp; done) | (simp; omega))
        have BB := Lib.hid (BB.out.stays hbx)
        have FF := Lib.hid (FF.out.stays hbx)
        have X1 := Lib.hid (X1.out.stays hbx)
        have X2 := Lib.hid (X2.out.stays hbx)
        have Y1 := Lib.hid (Y1.out.stays hbx)
        have Y2 := Lib.hid (Y2.out.stays hbx)
        have R6 := Lib.hid (R5.out.trans (hbx.mono hs5))
        have hs6 := R6.out.size
        clear hb hbx 
        clear R5
        go_wp2
        go_ret
        exact ⟨rfl, R6.out⟩
      | none =>
        have HF := Lib.hid hF
        clear hF
        go_wp2_with fail
        refine (write_any _ _ _ _ _ FF.out).mono ?_
        rintro e w1 ⟨A2, n2, c2, rfl, hv, hb⟩
        have hbx : Below w.heap.size w w1 := below_via (by go_grown) hb (by first | (simp; done) | (simp; omega))
        have BB := Lib.hid (BB.out.stays hbx)
        have FF := Lib.hid (FF.out.stays hbx)
        have X1 := Lib.hid hv
        have R1 := Lib.hid hbx
        have hs1 := R1.out.size
        clear hb hbx hv
        rw [HR.out] at X1 ⊢
        go_wp2_with fail
        refine (refWrite_any _ _ _ _ _ FF.out).mono ?_
        rintro e w2 ⟨A3, n3, c3, rfl, hv, hb⟩
        have hbx : Below w1.heap.size w1 w2 := below_via (by go_grown) hb (by first | (simp; done) | (simp; omega))
        have BB := Lib.hid (BB.out.stays hbx)
        have FF := Lib.hid (FF.out.stays hbx)
        have X1 := Lib.hid (X1.out.stays hbx)
        have X2 := Lib.hid hv
        have R2 := Lib.hid (R1.out.trans (hbx.mono hs1))
        have hs2 := R2.out.size
        clear hb hbx hv
        clear R1
        rw [HR.out] at X2 ⊢
        go_wp2_with fail
        refine (fields_bad _ _ _ _ _ BB.out (by omega) HF.out).mono ?_
        rintro e w3 ⟨rfl, hb⟩
        have hbx : Below w2.heap.size w2 w3 := below_via (by go_grown) hb (by first | (simp; done) | (simp; omega))
        have BB := Lib.hid (BB.out.stays hbx)
        have FF := Lib.hid (FF.out.stays hbx)
        have X1 := Lib.hid (X1.out.stays hbx)
        have X2 := Lib.hid (X2.out.stays hbx)
        have R3 := Lib.hid (R2.out.trans (hbx.mono hs2))
        have hs3 := R3.out.size
        clear hb hbx 
        clear R2
        go_wp2_with fail
        refine (refFields_bad _ _ _ _ _ BB.out (by omega) HF.out).mono ?_
        rintro e w4 ⟨rfl, hb⟩
        have hbx : Below w3.heap.size w3 w4 := below_via (by go_grown) hb (by first | (simp; done) | (simp; omega))
        have BB := Lib.hid (BB.out.stays hbx)
        have FF := Lib.hid (FF.out.stays hbx)
        have X1 := Lib.hid (X1.out.stays hbx)
        have X2 := Lib.hid (X2.out.stays hbx)
        have R4 := Lib.hid (R3.out.trans (hbx.mono hs3))
        have hs4 := R4.out.size
        clear hb hbx 
        clear R3
        go_wp2_with fail
        refine (octKnown _).mono ?_
        rintro e w5 ⟨rfl, hb⟩
        have hbx : Below w4.heap.size w4 w5 := below_via (by go_grown) hb (by first | (simp; done) | (simp; omega))
        have BB := Lib.hid (BB.out.stays hbx)
        have FF := Lib.hid (FF.out.stays hbx)
        have X1 := Lib.hid (X1.out.stays hbx)
        have X2 := Lib.hid (X2.out.stays hbx)
        have R5 := Lib.hid (R4.out.trans (hbx.mono hs4))
        have hs5 := R5.out.size
        clear hb hbx 
        clear R4
        go_wp2_with fail
        refine (refSame_true X1.out X2.out rfl).mono ?_
        rintro e w6 ⟨rfl, rfl⟩
        go_wp2_with fail
        refine (sameFields_true (FldL.nil _) (FldL.nil _) rfl).mono ?_
        rintro e w6 ⟨rfl, hb⟩
        have hbx : Below w5.heap.size w5 w6 := below_via (by go_grown) hb (by first | (simp; done) | (simp; omega))
        have BB := Lib.hid (BB.out.stays hbx)
        have FF := Lib.hid (FF.out.stays hbx)
        have X1 := Lib.hid (X1.out.stays hbx)
        have X2 := Lib.hid (X2.out.stays hbx)
        have R6 := Lib.hid (R5.out.trans (hbx.mono hs5))
        have hs6 := R6.out.size
        clear hb hbx 
        clear R5
        go_wp2
        go_ret
        exact ⟨rfl, R6.out⟩
end Go.Proofs.Ytofadjcphaehcaa
