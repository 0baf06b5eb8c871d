/- Trees: Climb and Check of both. -/
import Derived.Test.YtahphlcahaheiaaTreeM
import Derived.Test.YtahphlcahaheiaaEq
import Derived.Test.YtahphlcahaheiaaSame
namespace Go.Proofs.Ytahphlcahaheiaa
open Go.RowKit

/-- The root that a path gives, if it has the right length. -/
def climbO (n i : Nat) (x : List UInt8) (p : List (List UInt8)) : Option (List UInt8) :=
  match climbL n i (leafL x) p with
  | some (r, []) => some r
  | _ => none
/-- What Climb returns. -/
def RootIs (R : Option (List UInt8)) (w : World) (e : Ending) (w' : World) : Prop :=
  ((∃ r A m c, R = some r ∧ e = .returned (.tuple #[.slice A m c, .bool true]) ∧ Bytes w' A m c r) ∨ (R = none ∧ e = .returned (.tuple #[.slice none 0 0, .bool false]))) ∧ Below w.heap.size w w'
set_option maxRecDepth 100000 in
set_option maxHeartbeats 4000000 in
theorem climbO_any (n i : Nat) (x : List UInt8) (p : List (List UInt8)) (A : Option Addr) (m c : Nat) (A2 : Option Addr) (k c2 : Nat) (w : World) (hx : Bytes w A m c x) (hp : Lists w A2 k c2 p) (hin : i < n) (hn : n ≤ 1024) (hm : m ≤ 100000) (hf : few p) :
    Calls Try.prog 53 #[.int .i64 n, .int .i64 i, .slice A m c, .slice A2 k c2] w (RootIs (climbO n i x p) w) := by
  have XB := Lib.hid hx
  have PB := Lib.hid hp
  have HLp := Lib.hid hp.len
  have l1 := hp.le
  have l2 := hp.cap
  have HF := Lib.hid hf
  have b1 : ¬ (n : Int) < 1 := by omega
  have b2 : ¬ (n : Int) > 1024 := by omega
  have b3 : ¬ (i : Int) < 0 := by omega
  have b4 : ¬ (i : Int) ≥ (n : Int) := by omega
  clear hx hp hf
  unfold RootIs
  go_enter Try.func53, Try.ntmps53
  go_wp2_with fail
  refine (leaf_any _ _ _ _ _ XB.out (by omega)).mono ?_
  rintro e w1 ⟨A1, c1, rfl, hv, _, hb⟩
  have VX := Lib.hid hv
  have PB1 := Lib.hid (PB.out.stays hb)
  have R1 := Lib.hid hb
  have hs1 := hb.size
  clear hv hb
  go_wp2_with fail
  refine (climb_any n i (leafL x) p _ _ _ _ _ _ _ VX.out PB1.out hin hn (by omega) HF.out).mono ?_
  rintro e w2 ⟨⟨r, rest, A2, m2, c2, A3, k3, c3, hr, rfl, hv, _, hl, _⟩ | ⟨hr, rfl⟩, hb⟩
  · have R2 := Lib.hid (R1.out.trans (hb.mono hs1))
    have V2 := Lib.hid hv
    have HLr := Lib.hid hl.len
    have l1 := hl.le
    have l2 := hl.cap
    clear hv hl hb
    by_cases hk : k3 = 0
    · have hO : Hid (climbO n i x p = some r) := by
        unfold Hid climbO
        rw [hr, show rest = [] from List.eq_nil_of_length_eq_zero (by rw [HLr.out, hk])]
      have hki : ¬ (k3 : Int) > 0 := by omega
      clear hr
      go_wp2
      go_returns
      exact ⟨.inl ⟨_, _, _, _, hO.out, rfl, V2.out⟩, R2.out⟩
    · have hO : Hid (climbO n i x p = none) := by
        unfold Hid climbO
        rw [hr]
        cases rest with
        | nil => exfalso; exact hk HLr.out.symm
        | cons y ys => rfl
      have hki : (k3 : Int) > 0 := by omega
      clear hr
      go_wp2
      go_returns
      exact ⟨.inr ⟨hO.out, rfl⟩, R2.out⟩
  · have R2 := Lib.hid (R1.out.trans (hb.mono hs1))
    have hO : Hid (climbO n i x p = none) := by unfold Hid climbO; rw [hr]
    clear hr hb
    go_wp2
    go_returns
    exact ⟨.inr ⟨hO.out, rfl⟩, R2.out⟩
set_option maxRecDepth 100000 in
set_option maxHeartbeats 4000000 in
theorem climbO_bad (n i : Int) (A : Option Addr) (m c : Nat) (A2 : Option Addr) (k c2 : Nat) (w : World) (h : n < 1 ∨ 1024 < n ∨ i < 0 ∨ n ≤ i) :
    Calls Try.prog 53 #[.int .i64 n, .int .i64 i, .slice A m c, .slice A2 k c2] w fun e w' => e = .returned (.tuple #[.slice none 0 0, .bool false]) ∧ Below w.heap.size w w' := by
  by_cases b1 : n < 1
  · clear h
    go_enter Try.func53, Try.ntmps53
    go_wp2
    go_returns
    exact ⟨rfl, by go_grown⟩
  by_cases b2 : 1024 < n
  · have b2i : n > 1024 := b2
    clear h
    go_enter Try.func53, Try.ntmps53
    go_wp2
    go_returns
    exact ⟨rfl, by go_grown⟩
  have b2i : ¬ n > 1024 := b2
  by_cases b3 : i < 0
  · clear h
    go_enter Try.func53, Try.ntmps53
    go_wp2
    go_returns
    exact ⟨rfl, by go_grown⟩
  have b4 : i ≥ n := by omega
  clear h
  go_enter Try.func53, Try.ntmps53
  go_wp2
  go_returns
  exact ⟨rfl, by go_grown⟩
/-- What Check says. -/
def checkB (n i : Nat) (x : List UInt8) (p : List (List UInt8)) (rt : List UInt8) : Bool :=
  match climbO n i x p with
  | some r => decide (r = rt)
  | none => false
set_option maxRecDepth 100000 in
set_option maxHeartbeats 4000000 in
theorem check_any (rt : List UInt8) (n i : Nat) (x : List UInt8) (p : List (List UInt8)) (A0 : Option Addr) (m0 c0 : Nat) (A : Option Addr) (m c : Nat) (A2 : Option Addr) (k c2 : Nat) (w : World) (hr : Bytes w A0 m0 c0 rt) (hx : Bytes w A m c x) (hp : Lists w A2 k c2 p) (hin : i < n) (hn : n ≤ 1024) (hm : m ≤ 100000) (hf : few p) :
    Calls Try.prog 45 #[.slice A0 m0 c0, .int .i64 n, .int .i64 i, .slice A m c, .slice A2 k c2] w fun e w' => e = .returned (.bool (checkB n i x p rt)) ∧ Below w.heap.size w w' := by
  have RB := Lib.hid hr
  have C := Lib.hid (climbO_any n i x p _ _ _ _ _ _ w hx hp hin hn hm hf)
  have HC : Hid (∀ R, climbO n i x p = R → checkB n i x p rt = (match R with | some r => decide (r = rt) | none => false)) := fun R e => by unfold checkB; rw [e]
  clear hr hx hp hf
  go_enter Try.func45, Try.ntmps45
  go_wp2_with fail
  refine C.out.mono ?_
  rintro e w1 ⟨⟨r, A1, m1, c1, hr, rfl, hv⟩ | ⟨hr, rfl⟩, hb⟩
  · have V1 := Lib.hid hv
    have RB := Lib.hid (RB.out.stays hb)
    have HE := Lib.hid (HC.out _ hr)
    clear hr hv
    go_wp2_with fail
    refine (octSame_any _ _ _ r _ _ _ rt _ V1.out RB.out).mono ?_
    rintro e wz ⟨rfl, rfl⟩
    go_wp2
    go_ret
    exact ⟨by rw [HE.out]; rfl, hb⟩
  · have HE := Lib.hid (HC.out _ hr)
    clear hr
    go_wp2
    go_ret
    exact ⟨by rw [HE.out]; rfl, hb⟩
set_option maxRecDepth 100000 in
set_option maxHeartbeats 4000000 in
theorem check_bad (n i : Int) (A0 : Option Addr) (m0 c0 : Nat) (A : Option Addr) (m c : Nat) (A2 : Option Addr) (k c2 : Nat) (w : World) (h : n < 1 ∨ 1024 < n ∨ i < 0 ∨ n ≤ i) :
    Calls Try.prog 45 #[.slice A0 m0 c0, .int .i64 n, .int .i64 i, .slice A m c, .slice A2 k c2] w fun e w' => e = .returned (.bool false) ∧ Below w.heap.size w w' := by
  have HH := Lib.hid h
  clear h
  go_enter Try.func45, Try.ntmps45
  go_wp2_with fail
  refine (climbO_bad n i _ _ _ _ _ _ _ HH.out).mono ?_
  rintro e w1 ⟨rfl, hb⟩
  go_wp2
  go_ret
  exact ⟨rfl, hb⟩
set_option maxRecDepth 100000 in
set_option maxHeartbeats 4000000 in
theorem refClimbO_any (n i : Nat) (x : List UInt8) (p : List (List UInt8)) (A : Option Addr) (m c : Nat) (A2 : Option Addr) (k c2 : Nat) (w : World) (hx : Bytes w A m c x) (hp : Lists w A2 k c2 p) (hin : i < n) (hn : n ≤ 1024) (hm : m ≤ 100000) (hf : few p) :
    Calls Try.prog 56 #[.int .i64 n, .int .i64 i, .slice A m c, .slice A2 k c2] w (RootIs (climbO n i x p) w) := by
  have XB := Lib.hid hx
  have PB := Lib.hid hp
  have HLp := Lib.hid hp.len
  have l1 := hp.le
  have l2 := hp.cap
  have HF := Lib.hid hf
  have b1 : ¬ (n : Int) < 1 := by omega
  have b2 : ¬ (n : Int) > 1024 := by omega
  have b3 : ¬ (i : Int) < 0 := by omega
  have b4 : ¬ (i : Int) ≥ (n : Int) := by omega
  clear hx hp hf
  unfold RootIs
  go_enter Try.func56, Try.ntmps56
  go_wp2_with fail
  refine (refClimb_any n i x p _ _ _ _ _ _ _ XB.out PB.out hin hn (by omega) HF.out).mono ?_
  rintro e w2 ⟨⟨r, A2, c2, hr, rfl, hd, hv⟩ | ⟨hr, rfl⟩, hb⟩
  · have R2 := Lib.hid hb
    have V2 := Lib.hid hv
    clear hv hb
    generalize depthN n i = u at *
    by_cases hk : u = k
    · have hO : Hid (climbO n i x p = some r) := by
        unfold Hid climbO
        rw [hr, show p.drop u = [] from List.eq_nil_of_length_eq_zero (by rw [List.length_drop, HLp.out]; omega)]
      subst hk
      clear hr
      go_wp2
      go_returns
      exact ⟨.inl ⟨_, _, _, _, hO.out, rfl, V2.out⟩, R2.out⟩
    · have hO : Hid (climbO n i x p = none) := by
        unfold Hid climbO
        rw [hr]
        have hl : (p.drop u).length = k - u := by rw [List.length_drop, HLp.out]
        cases hdr : p.drop u with
        | nil => rw [hdr] at hl; simp at hl; omega
        | cons y ys => rfl
      have hub : ((u : Int) == (k : Int)) = false := by simp; omega
      have hub2 : ((u : Int) != (k : Int)) = true := by simp; omega
      have hud : decide (u = k) = false := by simp; omega
      clear hr
      go_wp2
      go_returns
      exact ⟨.inr ⟨hO.out, rfl⟩, R2.out⟩
  · have hO : Hid (climbO n i x p = none) := by unfold Hid climbO; rw [hr]
    have R2 := Lib.hid hb
    clear hr hb
    go_wp2
    go_returns
    exact ⟨.inr ⟨hO.out, rfl⟩, R2.out⟩
set_option maxRecDepth 100000 in
set_option maxHeartbeats 4000000 in
theorem refClimbO_bad (n i : Int) (A : Option Addr) (m c : Nat) (A2 : Option Addr) (k c2 : Nat) (w : World) (h : n < 1 ∨ 1024 < n ∨ i < 0 ∨ n ≤ i) :
    Calls Try.prog 56 #[.int .i64 n, .int .i64 i, .slice A m c, .slice A2 k c2] w fun e w' => e = .returned (.tuple #[.slice none 0 0, .bool false]) ∧ Below w.heap.size w w' := by
  by_cases b1 : n < 1
  · clear h
    go_enter Try.func56, Try.ntmps56
    go_wp2
    go_returns
    exact ⟨rfl, by go_grown⟩
  by_cases b2 : 1024 < n
  · have b2i : n > 1024 := b2
    clear h
    go_enter Try.func56, Try.ntmps56
    go_wp2
    go_returns
    exact ⟨rfl, by go_grown⟩
  have b2i : ¬ n > 1024 := b2
  by_cases b3 : i < 0
  · clear h
    go_enter Try.func56, Try.ntmps56
    go_wp2
    go_returns
    exact ⟨rfl, by go_grown⟩
  have b4 : i ≥ n := by omega
  clear h
  go_enter Try.func56, Try.ntmps56
  go_wp2
  go_returns
  exact ⟨rfl, by go_grown⟩
set_option maxRecDepth 100000 in
set_option maxHeartbeats 4000000 in
theorem refCheck_any (rt : List UInt8) (n i : Nat) (x : List UInt8) (p : List (List UInt8)) (A0 : Option Addr) (m0 c0 : Nat) (A : Option Addr) (m c : Nat) (A2 : Option Addr) (k c2 : Nat) (w : World) (hr : Bytes w A0 m0 c0 rt) (hx : Bytes w A m c x) (hp : Lists w A2 k c2 p) (hin : i < n) (hn : n ≤ 1024) (hm : m ≤ 100000) (hf : few p) :
    Calls Try.prog 46 #[.slice A0 m0 c0, .int .i64 n, .int .i64 i, .slice A m c, .slice A2 k c2] w fun e w' => e = .returned (.bool (checkB n i x p rt)) ∧ Below w.heap.size w w' := by
  have RB := Lib.hid hr
  have C := Lib.hid (refClimbO_any n i x p _ _ _ _ _ _ w hx hp hin hn hm hf)
  have HC : Hid (∀ R, climbO n i x p = R → checkB n i x p rt = (match R with | some r => decide (r = rt) | none => false)) := fun R e => by unfold checkB; rw [e]
  clear hr hx hp hf
  go_enter Try.func46, Try.ntmps46
  go_wp2_with fail
  refine C.out.mono ?_
  rintro e w1 ⟨⟨r, A1, m1, c1, hr, rfl, hv⟩ | ⟨hr, rfl⟩, hb⟩
  · have V1 := Lib.hid hv
    have RB := Lib.hid (RB.out.stays hb)
    have HE := Lib.hid (HC.out _ hr)
    clear hr hv
    go_wp2_with fail
    refine (refSame_any _ _ _ r _ _ _ rt _ V1.out RB.out).mono ?_
    rintro e wz ⟨rfl, rfl⟩
    go_wp2
    go_ret
    exact ⟨by rw [HE.out]; rfl, hb⟩
  · have HE := Lib.hid (HC.out _ hr)
    clear hr
    go_wp2
    go_ret
    exact ⟨by rw [HE.out]; rfl, hb⟩
set_option maxRecDepth 100000 in
set_option maxHeartbeats 4000000 in
theorem refCheck_bad (n i : Int) (A0 : Option Addr) (m0 c0 : Nat) (A : Option Addr) (m c : Nat) (A2 : Option Addr) (k c2 : Nat) (w : World) (h : n < 1 ∨ 1024 < n ∨ i < 0 ∨ n ≤ i) :
    Calls Try.prog 46 #[.slice A0 m0 c0, .int .i64 n, .int .i64 i, .slice A m c, .slice A2 k c2] w fun e w' => e = .returned (.bool false) ∧ Below w.heap.size w w' := by
  have HH := Lib.hid h
  clear h
  go_enter Try.func46, Try.ntmps46
  go_wp2_with fail
  refine (refClimbO_bad n i _ _ _ _ _ _ _ HH.out).mono ?_
  rintro e w1 ⟨rfl, hb⟩
  go_wp2
  go_ret
  exact ⟨rfl, hb⟩
end Go.Proofs.Ytahphlcahaheiaa
