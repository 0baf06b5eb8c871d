/- TreeChecks: the walk. -/
import Derived.Test.YtahphlcahaheiaaTreeX
import Derived.Test.YtahphlcahaheiaaTreeT
import Derived.Test.YtahphlcahaheiaaTreeN
namespace Go.Proofs.Ytahphlcahaheiaa
open Go.RowKit

/-- A list and a truth value, as a pair of results. -/
def ResR (L : List UInt8) (v : Bool) (w : World) (e : Ending) (w' : World) : Prop := ∃ A' m c', e = .returned (.tuple #[.slice A' m c', .bool v]) ∧ Bytes w' A' m c' L ∧ Below w.heap.size w w'
theorem climb7_both (n i : Int) (m k : Nat) (x : List UInt8) (p : List (List UInt8)) (hm : m ≤ 100000) (hf : few p) : ∃ L v, (∀ A c A2 c2 w, Bytes w A m c x → Lists w A2 k c2 p → Calls Try.prog 53 #[.int .i64 n, .int .i64 i, .slice A m c, .slice A2 k c2] w (ResR L v w)) ∧
    (∀ A c A2 c2 w, Bytes w A m c x → Lists w A2 k c2 p → Calls Try.prog 56 #[.int .i64 n, .int .i64 i, .slice A m c, .slice A2 k c2] w (ResR L v w)) := by
  by_cases h : n < 1 ∨ 1024 < n ∨ i < 0 ∨ n ≤ i
  · refine ⟨[], false, fun A c A2 c2 w _ _ => (climbO_bad n i A m c A2 k c2 w h).mono ?_, fun A c A2 c2 w _ _ => (refClimbO_bad n i A m c A2 k c2 w h).mono ?_⟩ <;>
    · rintro e w' ⟨rfl, hb⟩
      exact ⟨_, _, _, rfl, Bytes.nil _ _ _ (by decide), hb⟩
  · obtain ⟨N, rfl⟩ := Int.eq_ofNat_of_zero_le (show 0 ≤ n by omega)
    obtain ⟨I, rfl⟩ := Int.eq_ofNat_of_zero_le (show 0 ≤ i by omega)
    cases hR : climbO N I x p with
    | some r =>
      refine ⟨r, true, fun A c A2 c2 w hx hp => (climbO_any N I x p A m c A2 k c2 w hx hp (by omega) (by omega) hm hf).mono ?_, fun A c A2 c2 w hx hp => (refClimbO_any N I x p A m c A2 k c2 w hx hp (by omega) (by omega) hm hf).mono ?_⟩ <;>
      · rintro e w' ⟨⟨r', A', m', c', h1, rfl, hv⟩ | ⟨h1, _⟩, hb⟩
        · rw [hR] at h1; injection h1 with h1; subst h1; exact ⟨_, _, _, rfl, hv, hb⟩
        · rw [hR] at h1; cases h1
    | none =>
      refine ⟨[], false, fun A c A2 c2 w hx hp => (climbO_any N I x p A m c A2 k c2 w hx hp (by omega) (by omega) hm hf).mono ?_, fun A c A2 c2 w hx hp => (refClimbO_any N I x p A m c A2 k c2 w hx hp (by omega) (by omega) hm hf).mono ?_⟩ <;>
      · rintro e w' ⟨⟨r', A', m', c', h1, rfl, hv⟩ | ⟨_, rfl⟩, hb⟩
        · rw [hR] at h1; cases h1
        · exact ⟨_, _, _, rfl, Bytes.nil _ _ _ (by decide), hb⟩
def BoolIs (v : Bool) (w : World) (e : Ending) (w' : World) : Prop := e = .returned (.bool v) ∧ Below w.heap.size w w'
theorem check7_both (n i : Int) (m0 m k : Nat) (rt x : List UInt8) (p : List (List UInt8)) (hm : m ≤ 100000) (hf : few p) : ∃ v, (∀ A0 c0 A c A2 c2 w, Bytes w A0 m0 c0 rt → Bytes w A m c x → Lists w A2 k c2 p → Calls Try.prog 45 #[.slice A0 m0 c0, .int .i64 n, .int .i64 i, .slice A m c, .slice A2 k c2] w (BoolIs v w)) ∧
    (∀ A0 c0 A c A2 c2 w, Bytes w A0 m0 c0 rt → Bytes w A m c x → Lists w A2 k c2 p → Calls Try.prog 46 #[.slice A0 m0 c0, .int .i64 n, .int .i64 i, .slice A m c, .slice A2 k c2] w (BoolIs v w)) := by
  by_cases h : n < 1 ∨ 1024 < n ∨ i < 0 ∨ n ≤ i
  · exact ⟨false, fun A0 c0 A c A2 c2 w _ _ _ => check_bad n i A0 m0 c0 A m c A2 k c2 w h, fun A0 c0 A c A2 c2 w _ _ _ => refCheck_bad n i A0 m0 c0 A m c A2 k c2 w h⟩
  · obtain ⟨N, rfl⟩ := Int.eq_ofNat_of_zero_le (show 0 ≤ n by omega)
    obtain ⟨I, rfl⟩ := Int.eq_ofNat_of_zero_le (show 0 ≤ i by omega)
    exact ⟨checkB N I x p rt, fun A0 c0 A c A2 c2 w h0 hx hp => check_any rt N I x p A0 m0 c0 A m c A2 k c2 w h0 hx hp (by omega) (by omega) hm hf, fun A0 c0 A c A2 c2 w h0 hx hp => refCheck_any rt N I x p A0 m0 c0 A m c A2 k c2 w h0 hx hp (by omega) (by omega) hm hf⟩
theorem grow7_both (m n : Int) (no nn k : Nat) (old now : List UInt8) (p : List (List UInt8)) (hno : no ≤ 100000) (hf : few p) : ∃ v, (∀ A0 c0 A c A2 c2 w, Bytes w A0 no c0 old → Bytes w A nn c now → Lists w A2 k c2 p → Calls Try.prog 54 #[.slice A0 no c0, .int .i64 m, .slice A nn c, .int .i64 n, .slice A2 k c2] w (BoolIs v w)) ∧
    (∀ A0 c0 A c A2 c2 w, Bytes w A0 no c0 old → Bytes w A nn c now → Lists w A2 k c2 p → Calls Try.prog 55 #[.slice A0 no c0, .int .i64 m, .slice A nn c, .int .i64 n, .slice A2 k c2] w (BoolIs v w)) := by
  by_cases h : m < 1 ∨ n < m ∨ 1024 < n
  · exact ⟨false, fun A0 c0 A c A2 c2 w _ _ _ => grow_bad m n A0 no c0 A nn c A2 k c2 w h, fun A0 c0 A c A2 c2 w _ _ _ => refGrow_bad m n A0 no c0 A nn c A2 k c2 w h⟩
  · obtain ⟨M, rfl⟩ := Int.eq_ofNat_of_zero_le (show 0 ≤ m by omega)
    obtain ⟨N, rfl⟩ := Int.eq_ofNat_of_zero_le (show 0 ≤ n by omega)
    exact ⟨growB old M now N p, fun A0 c0 A c A2 c2 w h0 hx hp => grow_any old now M N p A0 no c0 A nn c A2 k c2 w h0 hx hp hno hf (by omega) (by omega) (by omega), fun A0 c0 A c A2 c2 w h0 hx hp => refGrow_any old now M N p A0 no c0 A nn c A2 k c2 w h0 hx hp hno hf (by omega) (by omega) (by omega)⟩
set_option maxRecDepth 100000 in
set_option maxHeartbeats 4000000 in
theorem treeChecks_walk (A0 : Option Addr) (n0 c0 : Nat) (rt : List UInt8) (n i : Int) (A3 : Option Addr) (n3 c3 : Nat) (lf : List UInt8) (A4 : Option Addr) (n4 c4 : Nat) (p : List (List UInt8)) (m : Int) (A6 : Option Addr) (n6 c6 : Nat) (old : List UInt8) (w : World) (h0 : Bytes w A0 n0 c0 rt) (h3 : Bytes w A3 n3 c3 lf) (h4 : Lists w A4 n4 c4 p) (h6 : Bytes w A6 n6 c6 old) :
    Calls Try.prog 15 #[.slice A0 n0 c0, .int .i64 n, .int .i64 i, .slice A3 n3 c3, .slice A4 n4 c4, .int .i64 m, .slice A6 n6 c6] w fun e w' => e = .returned (.bool true) ∧ Below w.heap.size w w' := by
  have q1 := h0.le
  have q2 := h0.cap
  have q3 := h3.le
  have q4 := h3.cap
  have q5 := h4.le
  have q6 := h4.cap
  have q7 := h6.le
  have q8 := h6.cap
  have RB := Lib.hid h0
  have LB := Lib.hid h3
  have PB := Lib.hid h4
  have OB := Lib.hid h6
  have HLp := Lib.hid h4.len
  clear h0 h3 h4 h6
  by_cases ha : 60 < n0
  · have hai : (n0 : Int) > 60 := by omega
    go_enter Try.func15, Try.ntmps15
    go_wp2_with fail
    refine (treeKnown _).mono ?_
    rintro e wk ⟨rfl, hb⟩
    go_wp2
    go_ret
    exact ⟨rfl, hb⟩
  have hai : ¬ (n0 : Int) > 60 := by omega
  by_cases hb : 60 < n3
  · have hbi : (n3 : Int) > 60 := by omega
    go_enter Try.func15, Try.ntmps15
    go_wp2_with fail
    refine (treeKnown _).mono ?_
    rintro e wk ⟨rfl, hb⟩
    go_wp2
    go_ret
    exact ⟨rfl, hb⟩
  have hbi : ¬ (n3 : Int) > 60 := by omega
  by_cases hc : 60 < n6
  · have hci : (n6 : Int) > 60 := by omega
    go_enter Try.func15, Try.ntmps15
    go_wp2_with fail
    refine (treeKnown _).mono ?_
    rintro e wk ⟨rfl, hb⟩
    go_wp2
    go_ret
    exact ⟨rfl, hb⟩
  have hci : ¬ (n6 : Int) > 60 := by omega
  go_enter Try.func15, Try.ntmps15
  go_wp2_with fail
  refine (light7_any _ _ _ 20 _ _ PB.out (by omega)).mono ?_
  rintro e w0 ⟨v, rfl, hv, rfl⟩
  cases v with
  | false =>
    clear hv
    go_wp2_with fail
    refine (treeKnown _).mono ?_
    rintro e wk ⟨rfl, hb⟩
    go_wp2
    go_ret
    exact ⟨rfl, hb⟩
  | true =>
    obtain ⟨hn, hs⟩ := hv rfl
    have HF := Lib.hid (few_of p n4 HLp.out hs)
    clear hv hs
    obtain ⟨LK, vk, hK1, hK2⟩ := climb7_both n i n3 n4 lf p (by omega) HF.out
    obtain ⟨vc, hC1, hC2⟩ := check7_both n i n0 n3 n4 rt lf p (by omega) HF.out
    obtain ⟨vg, hG1, hG2⟩ := grow7_both m n n6 n0 n4 old rt p (by omega) HF.out
    have K1 := Lib.hid hK1
    have K2 := Lib.hid hK2
    have C1 := Lib.hid hC1
    have C2 := Lib.hid hC2
    have G1 := Lib.hid hG1
    have G2 := Lib.hid hG2
    clear hK1 hK2 hC1 hC2 hG1 hG2
    go_wp2_with fail
    refine (K1.out _ _ _ _ _ LB.out PB.out).mono ?_
    rintro e w1 ⟨Aa, ma, ca, rfl, hv, hb⟩
    have hbx : Below w.heap.size w w1 := below_via (by go_grown) hb (by first | (simp; done) | (simp; omega))
    have RB := Lib.hid (RB.out.stays hbx)
    have LB := Lib.hid (LB.out.stays hbx)
    have OB := Lib.hid (OB.out.stays hbx)
    have PB := Lib.hid (PB.out.stays hbx)
    have V1 := Lib.hid hv
    have R1 := Lib.hid hbx
    have hs1 := R1.out.size
    clear hb hbx hv
    go_wp2_with fail
    refine (K2.out _ _ _ _ _ LB.out PB.out).mono ?_
    rintro e w2 ⟨Ab, mb, cb, rfl, hv, hb⟩
    have hbx : Below w1.heap.size w1 w2 := below_via (by go_grown) hb (by first | (simp; done) | (simp; omega))
    have RB := Lib.hid (RB.out.stays hbx)
    have LB := Lib.hid (LB.out.stays hbx)
    have OB := Lib.hid (OB.out.stays hbx)
    have PB := Lib.hid (PB.out.stays hbx)
    have V1 := Lib.hid (V1.out.stays hbx)
    have V2 := Lib.hid hv
    have R2 := Lib.hid (R1.out.trans (hbx.mono hs1))
    have hs2 := R2.out.size
    clear hb hbx hv
    clear R1
    go_wp2_with fail
    refine (treeKnown _).mono ?_
    rintro e w3 ⟨rfl, hb⟩
    have hbx : Below w2.heap.size w2 w3 := below_via (by go_grown) hb (by first | (simp; done) | (simp; omega))
    have RB := Lib.hid (RB.out.stays hbx)
    have LB := Lib.hid (LB.out.stays hbx)
    have OB := Lib.hid (OB.out.stays hbx)
    have PB := Lib.hid (PB.out.stays hbx)
    have V1 := Lib.hid (V1.out.stays hbx)
    have V2 := Lib.hid (V2.out.stays hbx)
    have R3 := Lib.hid (R2.out.trans (hbx.mono hs2))
    have hs3 := R3.out.size
    clear hb hbx 
    clear R2
    go_wp2_with fail
    refine (refSame_true V1.out V2.out rfl).mono ?_
    rintro e w4 ⟨rfl, rfl⟩
    go_wp2_with fail
    refine (C1.out _ _ _ _ _ _ _ RB.out LB.out PB.out).mono ?_
    rintro e w4 ⟨rfl, hb⟩
    have hbx : Below w3.heap.size w3 w4 := below_via (by go_grown) hb (by first | (simp; done) | (simp; omega))
    have RB := Lib.hid (RB.out.stays hbx)
    have LB := Lib.hid (LB.out.stays hbx)
    have OB := Lib.hid (OB.out.stays hbx)
    have PB := Lib.hid (PB.out.stays hbx)
    have V1 := Lib.hid (V1.out.stays hbx)
    have V2 := Lib.hid (V2.out.stays hbx)
    have R4 := Lib.hid (R3.out.trans (hbx.mono hs3))
    have hs4 := R4.out.size
    clear hb hbx 
    clear R3
    go_wp2_with fail
    refine (C2.out _ _ _ _ _ _ _ RB.out LB.out PB.out).mono ?_
    rintro e w5 ⟨rfl, hb⟩
    have hbx : Below w4.heap.size w4 w5 := below_via (by go_grown) hb (by first | (simp; done) | (simp; omega))
    have RB := Lib.hid (RB.out.stays hbx)
    have LB := Lib.hid (LB.out.stays hbx)
    have OB := Lib.hid (OB.out.stays hbx)
    have PB := Lib.hid (PB.out.stays hbx)
    have V1 := Lib.hid (V1.out.stays hbx)
    have V2 := Lib.hid (V2.out.stays hbx)
    have R5 := Lib.hid (R4.out.trans (hbx.mono hs4))
    have hs5 := R5.out.size
    clear hb hbx 
    clear R4
    go_wp2_with fail
    refine (G1.out _ _ _ _ _ _ _ OB.out RB.out PB.out).mono ?_
    rintro e w6 ⟨rfl, hb⟩
    have hbx : Below w5.heap.size w5 w6 := below_via (by go_grown) hb (by first | (simp; done) | (simp; omega))
    have RB := Lib.hid (RB.out.stays hbx)
    have LB := Lib.hid (LB.out.stays hbx)
    have OB := Lib.hid (OB.out.stays hbx)
    have PB := Lib.hid (PB.out.stays hbx)
    have V1 := Lib.hid (V1.out.stays hbx)
    have V2 := Lib.hid (V2.out.stays hbx)
    have R6 := Lib.hid (R5.out.trans (hbx.mono hs5))
    have hs6 := R6.out.size
    clear hb hbx 
    clear R5
    go_wp2_with fail
    refine (G2.out _ _ _ _ _ _ _ OB.out RB.out PB.out).mono ?_
    rintro e w7 ⟨rfl, hb⟩
    have hbx : Below w6.heap.size w6 w7 := below_via (by go_grown) hb (by first | (simp; done) | (simp; omega))
    have RB := Lib.hid (RB.out.stays hbx)
    have LB := Lib.hid (LB.out.stays hbx)
    have OB := Lib.hid (OB.out.stays hbx)
    have PB := Lib.hid (PB.out.stays hbx)
    have V1 := Lib.hid (V1.out.stays hbx)
    have V2 := Lib.hid (V2.out.stays hbx)
    have R7 := Lib.hid (R6.out.trans (hbx.mono hs6))
    have hs7 := R7.out.size
    clear hb hbx 
    clear R6
    go_wp2
    go_ret
    exact ⟨rfl, R7.out⟩
end Go.Proofs.Ytahphlcahaheiaa
