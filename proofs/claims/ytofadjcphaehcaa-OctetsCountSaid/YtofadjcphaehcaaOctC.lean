/- OctetsCount: the walk. -/
import Derived.Test.YtofadjcphaehcaaCutR
import Derived.Test.YtofadjcphaehcaaPadR
import Derived.Test.YtofadjcphaehcaaOctK
import Derived.Test.YtofadjcphaehcaaEq
namespace Go.Proofs.Ytofadjcphaehcaa
open Go.RowKit

set_option maxRecDepth 100000 in
theorem put_bad (v : Nat) (n : Int) (w : World) (h : n < 0 ∨ 64 < n) :
    Calls Try.prog 17 #[.int .u64 v, .int .i64 n] w fun e w' => e = .returned (.slice none 0 0) ∧ Below w.heap.size w w' := by
  by_cases hk : n < 0
  all_goals
    go_enter Try.func17, Try.ntmps17
    first
      | (have h2 : 64 < n := by omega
         go_wp2
         go_ret
         exact ⟨rfl, by go_grown⟩)
      | (go_wp2
         go_ret
         exact ⟨rfl, by go_grown⟩)
set_option maxRecDepth 100000 in
theorem refPut_bad (v : Nat) (n : Int) (w : World) (h : n < 0 ∨ 64 < n) :
    Calls Try.prog 43 #[.int .u64 v, .int .i64 n] w fun e w' => e = .returned (.slice none 0 0) ∧ Below w.heap.size w w' := by
  by_cases hk : n < 0
  all_goals
    go_enter Try.func43, Try.ntmps43
    first
      | (have h2 : 64 < n := by omega
         go_wp2
         go_ret
         exact ⟨rfl, by go_grown⟩)
      | (go_wp2
         go_ret
         exact ⟨rfl, by go_grown⟩)
theorem octSame_true {A : Option Addr} {n c : Nat} {l : List UInt8} {A2 : Option Addr} {n2 c2 : Nat} {w : World} (h1 : Bytes w A n c l) (h2 : Bytes w A2 n2 c2 l) :
    Calls Try.prog 19 #[.slice A n c, .slice A2 n2 c2] w fun e w' => e = .returned (.bool true) ∧ w = w' :=
  (octSame_any A n c l A2 n2 c2 l w h1 h2).mono fun e w' h => by rw [decide_eq_true rfl] at h; exact h
set_option maxRecDepth 100000 in
set_option maxHeartbeats 4000000 in
theorem octetsCount_walk (v : Nat) (n : Int) (A : Option Addr) (nb c : Nat) (b : List UInt8) (w : World) (h : Bytes w A nb c b) (hv : v < 18446744073709551616) :
    Calls Try.prog 11 #[.int .u64 v, .int .i64 n, .slice A nb c] w fun e w' => e = .returned (.bool true) ∧ Below w.heap.size w w' := by
  have q1 := h.le
  have q2 := h.cap
  have XB := Lib.hid h
  clear h
  by_cases hn : 200 < nb
  · have hni : (nb : Int) > 200 := by omega
    go_enter Try.func11, Try.ntmps11
    go_wp2_with fail
    refine (octKnown _).mono ?_
    rintro e w1 ⟨rfl, hb⟩
    go_wp2
    go_ret
    exact ⟨rfl, hb⟩
  have hni : ¬ (nb : Int) > 200 := by omega
  by_cases h0 : n < 0
  · go_enter Try.func11, Try.ntmps11
    go_wp2_with fail
    refine (cut_bad _ _ _ n _ (by omega)).mono ?_
    rintro e w1 ⟨rfl, hb⟩
    have hbx : Below w.heap.size w w1 := below_via (by go_grown) hb (by first | (simp; done) | (simp; omega))
    have XB := Lib.hid (XB.out.stays hbx)
    have R1 := Lib.hid hbx
    have hs1 := R1.out.size
    clear hb hbx 
    go_wp2_with fail
    refine (refCut_bad _ _ _ n _ (by omega)).mono ?_
    rintro e w2 ⟨rfl, hb⟩
    have hbx : Below w1.heap.size w1 w2 := below_via (by go_grown) hb (by first | (simp; done) | (simp; omega))
    have XB := Lib.hid (XB.out.stays hbx)
    have R2 := Lib.hid (R1.out.trans (hbx.mono hs1))
    have hs2 := R2.out.size
    clear hb hbx 
    clear R1
    go_wp2_with fail
    refine (octKnown _).mono ?_
    rintro e w3 ⟨rfl, hb⟩
    have hbx : Below w2.heap.size w2 w3 := below_via (by go_grown) hb (by first | (simp; done) | (simp; omega))
    have XB := Lib.hid (XB.out.stays hbx)
    have R3 := Lib.hid (R2.out.trans (hbx.mono hs2))
    have hs3 := R3.out.size
    clear hb hbx 
    clear R2
    go_wp2_with fail
    refine (put_bad v n _ (by omega)).mono ?_
    rintro e w4 ⟨rfl, hb⟩
    have hbx : Below w3.heap.size w3 w4 := below_via (by go_grown) hb (by first | (simp; done) | (simp; omega))
    have XB := Lib.hid (XB.out.stays hbx)
    have R4 := Lib.hid (R3.out.trans (hbx.mono hs3))
    have hs4 := R4.out.size
    clear hb hbx 
    clear R3
    go_wp2_with fail
    refine (refPut_bad v n _ (by omega)).mono ?_
    rintro e w5 ⟨rfl, hb⟩
    have hbx : Below w4.heap.size w4 w5 := below_via (by go_grown) hb (by first | (simp; done) | (simp; omega))
    have XB := Lib.hid (XB.out.stays hbx)
    have R5 := Lib.hid (R4.out.trans (hbx.mono hs4))
    have hs5 := R5.out.size
    clear hb hbx 
    clear R4
    go_wp2_with fail
    refine (octSame_true (Bytes.nil _ none 0 (by decide)) (Bytes.nil _ none 0 (by decide))).mono ?_
    rintro e w6 ⟨rfl, rfl⟩
    go_wp2_with fail
    refine (get_any _ _ _ _ _ XB.out).mono ?_
    rintro e w6 ⟨rfl, rfl⟩
    go_wp2_with fail
    refine (refGet_any _ _ _ _ _ XB.out).mono ?_
    rintro e w6 ⟨rfl, rfl⟩
    go_wp2_with fail
    refine (refSame_true (Bytes.nil _ none 0 (by decide)) (Bytes.nil _ none 0 (by decide)) rfl).mono ?_
    rintro e w6 ⟨rfl, rfl⟩
    go_wp2_with fail
    refine (refSame_true (Bytes.nil _ none 0 (by decide)) (Bytes.nil _ none 0 (by decide)) rfl).mono ?_
    rintro e w6 ⟨rfl, rfl⟩
    go_wp2_with fail
    refine (pad_any _ _ _ _ n _ XB.out (by omega)).mono ?_
    rintro e w6 ⟨A7, m7, c7, rfl, hv, hb⟩
    have hbx : Below w5.heap.size w5 w6 := below_via (by go_grown) hb (by first | (simp; done) | (simp; omega))
    have XB := Lib.hid (XB.out.stays hbx)
    have D1 := Lib.hid hv
    have R6 := Lib.hid (R5.out.trans (hbx.mono hs5))
    have hs6 := R6.out.size
    clear hb hbx hv
    clear R5
    go_wp2_with fail
    refine (refPad_any _ _ _ _ n _ XB.out (by omega)).mono ?_
    rintro e w7 ⟨A8, m8, c8, rfl, hv, hb⟩
    have hbx : Below w6.heap.size w6 w7 := below_via (by go_grown) hb (by first | (simp; done) | (simp; omega))
    have XB := Lib.hid (XB.out.stays hbx)
    have D1 := Lib.hid (D1.out.stays hbx)
    have D2 := Lib.hid hv
    have R7 := Lib.hid (R6.out.trans (hbx.mono hs6))
    have hs7 := R7.out.size
    clear hb hbx hv
    clear R6
    go_wp2_with fail
    refine (refSame_true D1.out D2.out rfl).mono ?_
    rintro e w8 ⟨rfl, rfl⟩
    go_wp2
    go_ret
    exact ⟨rfl, R7.out⟩
  obtain ⟨k, rfl⟩ := Int.eq_ofNat_of_zero_le (show 0 ≤ n by omega)
  clear h0
  by_cases hp : k ≤ 64
  · by_cases hc : k ≤ nb
    · go_enter Try.func11, Try.ntmps11
      go_wp2_with fail
      refine (cut_ok _ _ _ _ k _ XB.out (by omega) (by omega)).mono ?_
      rintro e w1 ⟨A1, c1, A2, c2, rfl, hv, hv2, hb⟩
      have hbx : Below w.heap.size w w1 := below_via (by go_grown) hb (by first | (simp; done) | (simp; omega))
      have XB := Lib.hid (XB.out.stays hbx)
      have H1 := Lib.hid hv
      have T1 := Lib.hid hv2
      have R1 := Lib.hid hbx
      have hs1 := R1.out.size
      clear hb hbx hv hv2
      go_wp2_with fail
      refine (refCut_ok _ _ _ _ k _ XB.out (by omega) (by omega)).mono ?_
      rintro e w2 ⟨A3, c3, A4, c4, rfl, hv, hv2, hb⟩
      have hbx : Below w1.heap.size w1 w2 := below_via (by go_grown) hb (by first | (simp; done) | (simp; omega))
      have XB := Lib.hid (XB.out.stays hbx)
      have H1 := Lib.hid (H1.out.stays hbx)
      have T1 := Lib.hid (T1.out.stays hbx)
      have H2 := Lib.hid hv
      have T2 := Lib.hid hv2
      have R2 := Lib.hid (R1.out.trans (hbx.mono hs1))
      have hs2 := R2.out.size
      clear hb hbx hv hv2
      clear R1
      go_wp2_with fail
      refine (octKnown _).mono ?_
      rintro e w3 ⟨rfl, hb⟩
      have hbx : Below w2.heap.size w2 w3 := below_via (by go_grown) hb (by first | (simp; done) | (simp; omega))
      have XB := Lib.hid (XB.out.stays hbx)
      have H1 := Lib.hid (H1.out.stays hbx)
      have T1 := Lib.hid (T1.out.stays hbx)
      have H2 := Lib.hid (H2.out.stays hbx)
      have T2 := Lib.hid (T2.out.stays hbx)
      have R3 := Lib.hid (R2.out.trans (hbx.mono hs2))
      have hs3 := R3.out.size
      clear hb hbx 
      clear R2
      go_wp2_with fail
      refine (put_reads v k (by omega) _).mono ?_
      rintro e w4 ⟨A5, c5, rfl, hv, hb⟩
      have hbx : Below w3.heap.size w3 w4 := below_via (by go_grown) hb (by first | (simp; done) | (simp; omega))
      have XB := Lib.hid (XB.out.stays hbx)
      have H1 := Lib.hid (H1.out.stays hbx)
      have T1 := Lib.hid (T1.out.stays hbx)
      have H2 := Lib.hid (H2.out.stays hbx)
      have T2 := Lib.hid (T2.out.stays hbx)
      have P1 := Lib.hid hv
      have R4 := Lib.hid (R3.out.trans (hbx.mono hs3))
      have hs4 := R4.out.size
      clear hb hbx hv
      clear R3
      go_wp2_with fail
      refine (refPut_reads v k (by omega) _).mono ?_
      rintro e w5 ⟨A6, c6, rfl, hv, hb⟩
      have hbx : Below w4.heap.size w4 w5 := below_via (by go_grown) hb (by first | (simp; done) | (simp; omega))
      have XB := Lib.hid (XB.out.stays hbx)
      have H1 := Lib.hid (H1.out.stays hbx)
      have T1 := Lib.hid (T1.out.stays hbx)
      have H2 := Lib.hid (H2.out.stays hbx)
      have T2 := Lib.hid (T2.out.stays hbx)
      have P1 := Lib.hid (P1.out.stays hbx)
      have P2 := Lib.hid hv
      have R5 := Lib.hid (R4.out.trans (hbx.mono hs4))
      have hs5 := R5.out.size
      clear hb hbx hv
      clear R4
      go_wp2_with fail
      refine (octSame_true P1.out P2.out).mono ?_
      rintro e w6 ⟨rfl, rfl⟩
      clear P1 P2
      go_wp2_with fail
      refine (get_any _ _ _ _ _ XB.out).mono ?_
      rintro e w6 ⟨rfl, rfl⟩
      go_wp2_with fail
      refine (refGet_any _ _ _ _ _ XB.out).mono ?_
      rintro e w6 ⟨rfl, rfl⟩
      go_wp2_with fail
      refine (refSame_true H1.out H2.out rfl).mono ?_
      rintro e w6 ⟨rfl, rfl⟩
      go_wp2_with fail
      refine (refSame_true T1.out T2.out rfl).mono ?_
      rintro e w6 ⟨rfl, rfl⟩
      go_wp2_with fail
      refine (pad_any _ _ _ _ k _ XB.out (by omega)).mono ?_
      rintro e w6 ⟨A7, m7, c7, rfl, hv, hb⟩
      have hbx : Below w5.heap.size w5 w6 := below_via (by go_grown) hb (by first | (simp; done) | (simp; omega))
      have XB := Lib.hid (XB.out.stays hbx)
      have H1 := Lib.hid (H1.out.stays hbx)
      have T1 := Lib.hid (T1.out.stays hbx)
      have H2 := Lib.hid (H2.out.stays hbx)
      have T2 := Lib.hid (T2.out.stays hbx)
      have D1 := Lib.hid hv
      have R6 := Lib.hid (R5.out.trans (hbx.mono hs5))
      have hs6 := R6.out.size
      clear hb hbx hv
      clear R5
      go_wp2_with fail
      refine (refPad_any _ _ _ _ k _ XB.out (by omega)).mono ?_
      rintro e w7 ⟨A8, m8, c8, rfl, hv, hb⟩
      have hbx : Below w6.heap.size w6 w7 := below_via (by go_grown) hb (by first | (simp; done) | (simp; omega))
      have XB := Lib.hid (XB.out.stays hbx)
      have H1 := Lib.hid (H1.out.stays hbx)
      have T1 := Lib.hid (T1.out.stays hbx)
      have H2 := Lib.hid (H2.out.stays hbx)
      have T2 := Lib.hid (T2.out.stays hbx)
      have D1 := Lib.hid (D1.out.stays hbx)
      have D2 := Lib.hid hv
      have R7 := Lib.hid (R6.out.trans (hbx.mono hs6))
      have hs7 := R7.out.size
      clear hb hbx hv
      clear R6
      go_wp2_with fail
      refine (refSame_true D1.out D2.out rfl).mono ?_
      rintro e w8 ⟨rfl, rfl⟩
      go_wp2
      go_ret
      exact ⟨rfl, R7.out⟩
    · go_enter Try.func11, Try.ntmps11
      go_wp2_with fail
      refine (cut_bad _ _ _ k _ (by omega)).mono ?_
      rintro e w1 ⟨rfl, hb⟩
      have hbx : Below w.heap.size w w1 := below_via (by go_grown) hb (by first | (simp; done) | (simp; omega))
      have XB := Lib.hid (XB.out.stays hbx)
      have R1 := Lib.hid hbx
      have hs1 := R1.out.size
      clear hb hbx 
      go_wp2_with fail
      refine (refCut_bad _ _ _ k _ (by omega)).mono ?_
      rintro e w2 ⟨rfl, hb⟩
      have hbx : Below w1.heap.size w1 w2 := below_via (by go_grown) hb (by first | (simp; done) | (simp; omega))
      have XB := Lib.hid (XB.out.stays hbx)
      have R2 := Lib.hid (R1.out.trans (hbx.mono hs1))
      have hs2 := R2.out.size
      clear hb hbx 
      clear R1
      go_wp2_with fail
      refine (octKnown _).mono ?_
      rintro e w3 ⟨rfl, hb⟩
      have hbx : Below w2.heap.size w2 w3 := below_via (by go_grown) hb (by first | (simp; done) | (simp; omega))
      have XB := Lib.hid (XB.out.stays hbx)
      have R3 := Lib.hid (R2.out.trans (hbx.mono hs2))
      have hs3 := R3.out.size
      clear hb hbx 
      clear R2
      go_wp2_with fail
      refine (put_reads v k (by omega) _).mono ?_
      rintro e w4 ⟨A5, c5, rfl, hv, hb⟩
      have hbx : Below w3.heap.size w3 w4 := below_via (by go_grown) hb (by first | (simp; done) | (simp; omega))
      have XB := Lib.hid (XB.out.stays hbx)
      have P1 := Lib.hid hv
      have R4 := Lib.hid (R3.out.trans (hbx.mono hs3))
      have hs4 := R4.out.size
      clear hb hbx hv
      clear R3
      go_wp2_with fail
      refine (refPut_reads v k (by omega) _).mono ?_
      rintro e w5 ⟨A6, c6, rfl, hv, hb⟩
      have hbx : Below w4.heap.size w4 w5 := below_via (by go_grown) hb (by first | (simp; done) | (simp; omega))
      have XB := Lib.hid (XB.out.stays hbx)
      have P1 := Lib.hid (P1.out.stays hbx)
      have P2 := Lib.hid hv
      have R5 := Lib.hid (R4.out.trans (hbx.mono hs4))
      have hs5 := R5.out.size
      clear hb hbx hv
      clear R4
      go_wp2_with fail
      refine (octSame_true P1.out P2.out).mono ?_
      rintro e w6 ⟨rfl, rfl⟩
      clear P1 P2
      go_wp2_with fail
      refine (get_any _ _ _ _ _ XB.out).mono ?_
      rintro e w6 ⟨rfl, rfl⟩
      go_wp2_with fail
      refine (refGet_any _ _ _ _ _ XB.out).mono ?_
      rintro e w6 ⟨rfl, rfl⟩
      go_wp2_with fail
      refine (refSame_true (Bytes.nil _ none 0 (by decide)) (Bytes.nil _ none 0 (by decide)) rfl).mono ?_
      rintro e w6 ⟨rfl, rfl⟩
      go_wp2_with fail
      refine (refSame_true (Bytes.nil _ none 0 (by decide)) (Bytes.nil _ none 0 (by decide)) rfl).mono ?_
      rintro e w6 ⟨rfl, rfl⟩
      go_wp2_with fail
      refine (pad_any _ _ _ _ k _ XB.out (by omega)).mono ?_
      rintro e w6 ⟨A7, m7, c7, rfl, hv, hb⟩
      have hbx : Below w5.heap.size w5 w6 := below_via (by go_grown) hb (by first | (simp; done) | (simp; omega))
      have XB := Lib.hid (XB.out.stays hbx)
      have D1 := Lib.hid hv
      have R6 := Lib.hid (R5.out.trans (hbx.mono hs5))
      have hs6 := R6.out.size
      clear hb hbx hv
      clear R5
      go_wp2_with fail
      refine (refPad_any _ _ _ _ k _ XB.out (by omega)).mono ?_
      rintro e w7 ⟨A8, m8, c8, rfl, hv, hb⟩
      have hbx : Below w6.heap.size w6 w7 := below_via (by go_grown) hb (by first | (simp; done) | (simp; omega))
      have XB := Lib.hid (XB.out.stays hbx)
      have D1 := Lib.hid (D1.out.stays hbx)
      have D2 := Lib.hid hv
      have R7 := Lib.hid (R6.out.trans (hbx.mono hs6))
      have hs7 := R7.out.size
      clear hb hbx hv
      clear R6
      go_wp2_with fail
      refine (refSame_true D1.out D2.out rfl).mono ?_
      rintro e w8 ⟨rfl, rfl⟩
      go_wp2
      go_ret
      exact ⟨rfl, R7.out⟩
  · by_cases hc : k ≤ nb
    · go_enter Try.func11, Try.ntmps11
      go_wp2_with fail
      refine (cut_ok _ _ _ _ k _ XB.out (by omega) (by omega)).mono ?_
      rintro e w1 ⟨A1, c1, A2, c2, rfl, hv, hv2, hb⟩
      have hbx : Below w.heap.size w w1 := below_via (by go_grown) hb (by first | (simp; done) | (simp; omega))
      have XB := Lib.hid (XB.out.stays hbx)
      have H1 := Lib.hid hv
      have T1 := Lib.hid hv2
      have R1 := Lib.hid hbx
      have hs1 := R1.out.size
      clear hb hbx hv hv2
      go_wp2_with fail
      refine (refCut_ok _ _ _ _ k _ XB.out (by omega) (by omega)).mono ?_
      rintro e w2 ⟨A3, c3, A4, c4, rfl, hv, hv2, hb⟩
      have hbx : Below w1.heap.size w1 w2 := below_via (by go_grown) hb (by first | (simp; done) | (simp; omega))
      have XB := Lib.hid (XB.out.stays hbx)
      have H1 := Lib.hid (H1.out.stays hbx)
      have T1 := Lib.hid (T1.out.stays hbx)
      have H2 := Lib.hid hv
      have T2 := Lib.hid hv2
      have R2 := Lib.hid (R1.out.trans (hbx.mono hs1))
      have hs2 := R2.out.size
      clear hb hbx hv hv2
      clear R1
      go_wp2_with fail
      refine (octKnown _).mono ?_
      rintro e w3 ⟨rfl, hb⟩
      have hbx : Below w2.heap.size w2 w3 := below_via (by go_grown) hb (by first | (simp; done) | (simp; omega))
      have XB := Lib.hid (XB.out.stays hbx)
      have H1 := Lib.hid (H1.out.stays hbx)
      have T1 := Lib.hid (T1.out.stays hbx)
      have H2 := Lib.hid (H2.out.stays hbx)
      have T2 := Lib.hid (T2.out.stays hbx)
      have R3 := Lib.hid (R2.out.trans (hbx.mono hs2))
      have hs3 := R3.out.size
      clear hb hbx 
      clear R2
      go_wp2_with fail
      refine (put_bad v k _ (by omega)).mono ?_
      rintro e w4 ⟨rfl, hb⟩
      have hbx : Below w3.heap.size w3 w4 := below_via (by go_grown) hb (by first | (simp; done) | (simp; omega))
      have XB := Lib.hid (XB.out.stays hbx)
      have H1 := Lib.hid (H1.out.stays hbx)
      have T1 := Lib.hid (T1.out.stays hbx)
      have H2 := Lib.hid (H2.out.stays hbx)
      have T2 := Lib.hid (T2.out.stays hbx)
      have R4 := Lib.hid (R3.out.trans (hbx.mono hs3))
      have hs4 := R4.out.size
      clear hb hbx 
      clear R3
      go_wp2_with fail
      refine (refPut_bad v k _ (by omega)).mono ?_
      rintro e w5 ⟨rfl, hb⟩
      have hbx : Below w4.heap.size w4 w5 := below_via (by go_grown) hb (by first | (simp; done) | (simp; omega))
      have XB := Lib.hid (XB.out.stays hbx)
      have H1 := Lib.hid (H1.out.stays hbx)
      have T1 := Lib.hid (T1.out.stays hbx)
      have H2 := Lib.hid (H2.out.stays hbx)
      have T2 := Lib.hid (T2.out.stays hbx)
      have R5 := Lib.hid (R4.out.trans (hbx.mono hs4))
      have hs5 := R5.out.size
      clear hb hbx 
      clear R4
      go_wp2_with fail
      refine (octSame_true (Bytes.nil _ none 0 (by decide)) (Bytes.nil _ none 0 (by decide))).mono ?_
      rintro e w6 ⟨rfl, rfl⟩
      go_wp2_with fail
      refine (get_any _ _ _ _ _ XB.out).mono ?_
      rintro e w6 ⟨rfl, rfl⟩
      go_wp2_with fail
      refine (refGet_any _ _ _ _ _ XB.out).mono ?_
      rintro e w6 ⟨rfl, rfl⟩
      go_wp2_with fail
      refine (refSame_true H1.out H2.out rfl).mono ?_
      rintro e w6 ⟨rfl, rfl⟩
      go_wp2_with fail
      refine (refSame_true T1.out T2.out rfl).mono ?_
      rintro e w6 ⟨rfl, rfl⟩
      go_wp2_with fail
      refine (pad_any _ _ _ _ k _ XB.out (by omega)).mono ?_
      rintro e w6 ⟨A7, m7, c7, rfl, hv, hb⟩
      have hbx : Below w5.heap.size w5 w6 := below_via (by go_grown) hb (by first | (simp; done) | (simp; omega))
      have XB := Lib.hid (XB.out.stays hbx)
      have H1 := Lib.hid (H1.out.stays hbx)
      have T1 := Lib.hid (T1.out.stays hbx)
      have H2 := Lib.hid (H2.out.stays hbx)
      have T2 := Lib.hid (T2.out.stays hbx)
      have D1 := Lib.hid hv
      have R6 := Lib.hid (R5.out.trans (hbx.mono hs5))
      have hs6 := R6.out.size
      clear hb hbx hv
      clear R5
      go_wp2_with fail
      refine (refPad_any _ _ _ _ k _ XB.out (by omega)).mono ?_
      rintro e w7 ⟨A8, m8, c8, rfl, hv, hb⟩
      have hbx : Below w6.heap.size w6 w7 := below_via (by go_grown) hb (by first | (simp; done) | (simp; omega))
      have XB := Lib.hid (XB.out.stays hbx)
      have H1 := Lib.hid (H1.out.stays hbx)
      have T1 := Lib.hid (T1.out.stays hbx)
      have H2 := Lib.hid (H2.out.stays hbx)
      have T2 := Lib.hid (T2.out.stays hbx)
      have D1 := Lib.hid (D1.out.stays hbx)
      have D2 := Lib.hid hv
      have R7 := Lib.hid (R6.out.trans (hbx.mono hs6))
      have hs7 := R7.out.size
      clear hb hbx hv
      clear R6
      go_wp2_with fail
      refine (refSame_true D1.out D2.out rfl).mono ?_
      rintro e w8 ⟨rfl, rfl⟩
      go_wp2
      go_ret
      exact ⟨rfl, R7.out⟩
    · go_enter Try.func11, Try.ntmps11
      go_wp2_with fail
      refine (cut_bad _ _ _ k _ (by omega)).mono ?_
      rintro e w1 ⟨rfl, hb⟩
      have hbx : Below w.heap.size w w1 := below_via (by go_grown) hb (by first | (simp; done) | (simp; omega))
      have XB := Lib.hid (XB.out.stays hbx)
      have R1 := Lib.hid hbx
      have hs1 := R1.out.size
      clear hb hbx 
      go_wp2_with fail
      refine (refCut_bad _ _ _ k _ (by omega)).mono ?_
      rintro e w2 ⟨rfl, hb⟩
      have hbx : Below w1.heap.size w1 w2 := below_via (by go_grown) hb (by first | (simp; done) | (simp; omega))
      have XB := Lib.hid (XB.out.stays hbx)
      have R2 := Lib.hid (R1.out.trans (hbx.mono hs1))
      have hs2 := R2.out.size
      clear hb hbx 
      clear R1
      go_wp2_with fail
      refine (octKnown _).mono ?_
      rintro e w3 ⟨rfl, hb⟩
      have hbx : Below w2.heap.size w2 w3 := below_via (by go_grown) hb (by first | (simp; done) | (simp; omega))
      have XB := Lib.hid (XB.out.stays hbx)
      have R3 := Lib.hid (R2.out.trans (hbx.mono hs2))
      have hs3 := R3.out.size
      clear hb hbx 
      clear R2
      go_wp2_with fail
      refine (put_bad v k _ (by omega)).mono ?_
      rintro e w4 ⟨rfl, hb⟩
      have hbx : Below w3.heap.size w3 w4 := below_via (by go_grown) hb (by first | (simp; done) | (simp; omega))
      have XB := Lib.hid (XB.out.stays hbx)
      have R4 := Lib.hid (R3.out.trans (hbx.mono hs3))
      have hs4 := R4.out.size
      clear hb hbx 
      clear R3
      go_wp2_with fail
      refine (refPut_bad v k _ (by omega)).mono ?_
      rintro e w5 ⟨rfl, hb⟩
      have hbx : Below w4.heap.size w4 w5 := below_via (by go_grown) hb (by first | (simp; done) | (simp; omega))
      have XB := Lib.hid (XB.out.stays hbx)
      have R5 := Lib.hid (R4.out.trans (hbx.mono hs4))
      have hs5 := R5.out.size
      clear hb hbx 
      clear R4
      go_wp2_with fail
      refine (octSame_true (Bytes.nil _ none 0 (by decide)) (Bytes.nil _ none 0 (by decide))).mono ?_
      rintro e w6 ⟨rfl, rfl⟩
      go_wp2_with fail
      refine (get_any _ _ _ _ _ XB.out).mono ?_
      rintro e w6 ⟨rfl, rfl⟩
      go_wp2_with fail
      refine (refGet_any _ _ _ _ _ XB.out).mono ?_
      rintro e w6 ⟨rfl, rfl⟩
      go_wp2_with fail
      refine (refSame_true (Bytes.nil _ none 0 (by decide)) (Bytes.nil _ none 0 (by decide)) rfl).mono ?_
      rintro e w6 ⟨rfl, rfl⟩
      go_wp2_with fail
      refine (refSame_true (Bytes.nil _ none 0 (by decide)) (Bytes.nil _ none 0 (by decide)) rfl).mono ?_
      rintro e w6 ⟨rfl, rfl⟩
      go_wp2_with fail
      refine (pad_any _ _ _ _ k _ XB.out (by omega)).mono ?_
      rintro e w6 ⟨A7, m7, c7, rfl, hv, hb⟩
      have hbx : Below w5.heap.size w5 w6 := below_via (by go_grown) hb (by first | (simp; done) | (simp; omega))
      have XB := Lib.hid (XB.out.stays hbx)
      have D1 := Lib.hid hv
      have R6 := Lib.hid (R5.out.trans (hbx.mono hs5))
      have hs6 := R6.out.size
      clear hb hbx hv
      clear R5
      go_wp2_with fail
      refine (refPad_any _ _ _ _ k _ XB.out (by omega)).mono ?_
      rintro e w7 ⟨A8, m8, c8, rfl, hv, hb⟩
      have hbx : Below w6.heap.size w6 w7 := below_via (by go_grown) hb (by first | (simp; done) | (simp; omega))
      have XB := Lib.hid (XB.out.stays hbx)
      have D1 := Lib.hid (D1.out.stays hbx)
      have D2 := Lib.hid hv
      have R7 := Lib.hid (R6.out.trans (hbx.mono hs6))
      have hs7 := R7.out.size
      clear hb hbx hv
      clear R6
      go_wp2_with fail
      refine (refSame_true D1.out D2.out rfl).mono ?_
      rintro e w8 ⟨rfl, rfl⟩
      go_wp2
      go_ret
      exact ⟨rfl, R7.out⟩
theorem octetsCount_walk' (a0 : Int) (w0 : (Lit.int .u64 a0).wf = true) (a1 : Int) (A : Option Addr) (nb c : Nat) (b : List UInt8) (w : World) (h : Bytes w A nb c b) :
    Calls Try.prog 11 #[.int .u64 a0, .int .i64 a1, .slice A nb c] w fun e w' => e = .returned (.bool true) ∧ Below w.heap.size w w' := by
  have hb0 := bounds_u64 w0
  obtain ⟨v, rfl⟩ := Int.eq_ofNat_of_zero_le hb0.1
  exact octetsCount_walk v a1 A nb c b w h (by omega)
end Go.Proofs.Ytofadjcphaehcaa
