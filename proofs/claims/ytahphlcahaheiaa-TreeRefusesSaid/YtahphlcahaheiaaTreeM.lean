/- Trees: climbing of both. -/
import Derived.Test.YtahphlcahaheiaaTreeC
import Derived.Deep.RegionHeld3
namespace Go.Proofs.Ytahphlcahaheiaa
open Go.RowKit

theorem one_some {g : List UInt8 → List UInt8 → List UInt8} {r : List UInt8} {rest : List (List UInt8)} (h : 0 < rest.length) : one g (some (r, rest)) = some (g r (listAt rest 0), rest.drop 1) := by
  match rest, h with
  | y :: ys, _ => rfl
theorem one_none {g : List UInt8 → List UInt8 → List UInt8} {r : List UInt8} {rest : List (List UInt8)} (h : rest.length = 0) : one g (some (r, rest)) = none := by
  match rest, h with
  | [], _ => rfl
/-- What climb gives. -/
def ClimbIs (R : Option (List UInt8 × List (List UInt8))) (w : World) (e : Ending) (w' : World) : Prop :=
  ((∃ r rest A m c A2 k c2, R = some (r, rest) ∧ e = .returned (.tuple #[.slice A m c, .slice A2 k c2, .bool true]) ∧ Bytes w' A m c r ∧ m ≤ 100000 ∧ Lists w' A2 k c2 rest ∧ few rest) ∨
    (R = none ∧ e = .returned (.tuple #[.slice none 0 0, .slice none 0 0, .bool false]))) ∧ Below w.heap.size w w'
set_option maxRecDepth 100000 in
set_option maxHeartbeats 4000000 in
theorem climb_any (n : Nat) : ∀ (i : Nat) (x : List UInt8) (p : List (List UInt8)) (A : Option Addr) (m c : Nat) (A2 : Option Addr) (k c2 : Nat) (w : World), Bytes w A m c x → Lists w A2 k c2 p → i < n → n ≤ 1024 → m ≤ 100000 → few p →
    Calls Try.prog 80 #[.int .i64 n, .int .i64 i, .slice A m c, .slice A2 k c2] w (ClimbIs (climbL n i x p) w) := by
  induction n using Nat.strongRecOn with
  | ind n ih =>
  intro i x p A m c A2 k c2 w hx hp hin hn hm hf
  have IH := Lib.hid ih
  have XB := Lib.hid hx
  have PB := Lib.hid hp
  have HF := Lib.hid hf
  clear ih hx hp hf
  unfold ClimbIs
  by_cases h1 : n = 1
  · subst h1
    have HR : Hid (climbL 1 i x p = some (x, p)) := by unfold Hid; rw [climbL, if_pos (by omega)]
    go_enter Try.func80, Try.ntmps80
    go_wp2
    go_returns
    exact ⟨.inl ⟨_, _, _, _, _, _, _, _, HR.out, rfl, XB.out, hm, PB.out, HF.out⟩, Below.refl _ _⟩
  · have h2 : 2 ≤ n := by omega
    have hb1 : ((n : Int) == 1) = false := by simp; omega
    clear h1
    have HRl : Hid (i < halfN n → climbL n i x p = one nodeL (climbL (halfN n) i x p)) := fun hlt => by rw [climbL, if_neg (by omega), if_pos hlt]
    have HRr : Hid (¬ i < halfN n → climbL n i x p = one (fun r y => nodeL y r) (climbL (n - halfN n) (i - halfN n) x p)) := fun hlt => by rw [climbL, if_neg (by omega), if_neg hlt]
    have hk1 := half_lt h2
    have hk0 := half_pos n
    generalize hCL : climbL n i x p = CL at *
    clear hCL
    go_enter Try.func80, Try.ntmps80
    go_wp2_with fail
    refine (half_any _ _ h2 hn).mono ?_
    rintro e w0 ⟨rfl, rfl⟩
    generalize halfN n = q at *
    by_cases hik : i < q
    · have hiki : (i : Int) < (q : Int) := by omega
      have HE := Lib.hid (HRl.out hik)
      clear HRl HRr
      go_wp2_with fail
      refine (IH.out q hk1 i x p _ _ _ _ _ _ _ XB.out PB.out hik (by omega) hm HF.out).mono ?_
      rintro e w1 ⟨⟨r, rest, A1, m1, c1, A3, k3, c3, hr, rfl, hv, hm1, hl, hfr⟩ | ⟨hr, rfl⟩, hb⟩
      · have R1 := Lib.hid hb
        have hs1 := hb.size
        rw [hr] at HE
        have VX := Lib.hid hv
        have VL := Lib.hid hl
        have HLr := Lib.hid hl.len
        have l1 := hl.le
        have l2 := hl.cap
        have HFr := Lib.hid hfr
        clear hb hr hv hl hfr
        by_cases hk0 : k3 = 0
        · subst hk0
          rw [one_none HLr.out] at HE
          go_wp2
          go_returns
          exact ⟨.inr ⟨HE.out, rfl⟩, R1.out⟩
        · have hk3 : 0 < k3 := by omega
          have hk3i : (0 : Int) < (k3 : Int) := by omega
          have hk3b : ((k3 : Int) == 0) = false := by simp; omega
          rw [one_some (by rw [HLr.out]; exact hk3)] at HE
          obtain ⟨b, off, Ay, ny, cy, rfl, hc, hy⟩ := VL.out.at_ (i := 0) hk3
          rw [Nat.add_zero] at hc
          have hny : ny ≤ 100000 := by rw [← hy.len]; exact HFr.out.at_ (by rw [HLr.out]; exact hk3)
          have HY := Lib.hid hy
          have VT := Lib.hid (VL.out.cutFrom 1 (by omega) (d := k3 - 1) (k := c3 - 1) rfl rfl)
          have HFt := Lib.hid (HFr.out.drop 1)
          have s1 := run_cutFrom und_lists size_list (A := some ⟨b, off, none⟩) (n := k3) (c := c3) 1 1 (k3 - 1) (c3 - 1) rfl (by omega) rfl rfl
          clear hy
          go_wp2_with fail
          go_region_held3 (fun w' => w'.cell? ⟨b, off, none⟩ = some (.slice Ay ny cy)) (go_keep)
            (first
              | (go_at_call 40; with_reducible refine (node_any _ _ _ _ _ _ _ _ _ (VX.out.stays (by go_grown)) (HY.out.stays (by go_grown)) (by omega) (by omega)).mono ?_; rintro e w2 ⟨A5, c5, rfl, hv, _, hb⟩; have R2 : Below w1.heap.size w1 w2 := below_via (by go_grown) hb (by first | (simp; done) | (simp; omega)); have z0 := cell_stays R2 hc))
          all_goals
            have V5 := Lib.hid hv
            have VT2 := Lib.hid (VT.out.stays R2)
            have R3 := Lib.hid (R1.out.trans (R2.mono hs1))
            clear hv hb
            go_wp2
            go_returns
            first
              | exact ⟨.inl ⟨_, _, _, _, _, _, _, _, HE.out, rfl, V5.out, by omega, VT2.out, HFt.out⟩, R3.out⟩
              | exact ⟨.inl ⟨_, _, _, _, _, _, _, _, HE.out, rfl, V5.out.stays ((Below.refl _ _).drew), by omega, VT2.out.stays ((Below.refl _ _).drew), HFt.out⟩, R3.out.drew⟩
      · have R1 := Lib.hid hb
        rw [hr] at HE
        clear hb hr
        go_wp2
        go_returns
        exact ⟨.inr ⟨HE.out, rfl⟩, R1.out⟩
    · have hiki : ¬ (i : Int) < (q : Int) := by omega
      have HE := Lib.hid (HRr.out hik)
      obtain ⟨j, hj0⟩ : ∃ j, i - q = j := ⟨_, rfl⟩
      obtain ⟨d, hd0⟩ : ∃ d, n - q = d := ⟨_, rfl⟩
      rw [hj0, hd0] at HE
      have hj : (i : Int) - (q : Int) = (j : Int) := by omega
      have hd : (n : Int) - (q : Int) = (d : Int) := by omega
      have hjd : j < d := by omega
      have hdn : d < n := by omega
      clear hj0 hd0 HRl HRr
      go_wp2_with fail
      refine (IH.out d hdn j x p _ _ _ _ _ _ _ XB.out PB.out hjd (by omega) hm HF.out).mono ?_
      rintro e w1 ⟨⟨r, rest, A1, m1, c1, A3, k3, c3, hr, rfl, hv, hm1, hl, hfr⟩ | ⟨hr, rfl⟩, hb⟩
      · have R1 := Lib.hid hb
        have hs1 := hb.size
        rw [hr] at HE
        have VX := Lib.hid hv
        have VL := Lib.hid hl
        have HLr := Lib.hid hl.len
        have l1 := hl.le
        have l2 := hl.cap
        have HFr := Lib.hid hfr
        clear hb hr hv hl hfr
        by_cases hk0 : k3 = 0
        · subst hk0
          rw [one_none HLr.out] at HE
          go_wp2
          go_returns
          exact ⟨.inr ⟨HE.out, rfl⟩, R1.out⟩
        · have hk3 : 0 < k3 := by omega
          have hk3i : (0 : Int) < (k3 : Int) := by omega
          have hk3b : ((k3 : Int) == 0) = false := by simp; omega
          rw [one_some (by rw [HLr.out]; exact hk3)] at HE
          obtain ⟨b, off, Ay, ny, cy, rfl, hc, hy⟩ := VL.out.at_ (i := 0) hk3
          rw [Nat.add_zero] at hc
          have hny : ny ≤ 100000 := by rw [← hy.len]; exact HFr.out.at_ (by rw [HLr.out]; exact hk3)
          have HY := Lib.hid hy
          have VT := Lib.hid (VL.out.cutFrom 1 (by omega) (d := k3 - 1) (k := c3 - 1) rfl rfl)
          have HFt := Lib.hid (HFr.out.drop 1)
          have s1 := run_cutFrom und_lists size_list (A := some ⟨b, off, none⟩) (n := k3) (c := c3) 1 1 (k3 - 1) (c3 - 1) rfl (by omega) rfl rfl
          clear hy
          go_wp2_with fail
          go_region_held3 (fun w' => w'.cell? ⟨b, off, none⟩ = some (.slice Ay ny cy)) (go_keep)
            (first
              | (go_at_call 40; with_reducible refine (node_any _ _ _ _ _ _ _ _ _ (HY.out.stays (by go_grown)) (VX.out.stays (by go_grown)) (by omega) (by omega)).mono ?_; rintro e w2 ⟨A5, c5, rfl, hv, _, hb⟩; have R2 : Below w1.heap.size w1 w2 := below_via (by go_grown) hb (by first | (simp; done) | (simp; omega)); have z0 := cell_stays R2 hc))
          all_goals
            have V5 := Lib.hid hv
            have VT2 := Lib.hid (VT.out.stays R2)
            have R3 := Lib.hid (R1.out.trans (R2.mono hs1))
            clear hv hb
            go_wp2
            go_returns
            first
              | exact ⟨.inl ⟨_, _, _, _, _, _, _, _, HE.out, rfl, V5.out, by omega, VT2.out, HFt.out⟩, R3.out⟩
              | exact ⟨.inl ⟨_, _, _, _, _, _, _, _, HE.out, rfl, V5.out.stays ((Below.refl _ _).drew), by omega, VT2.out.stays ((Below.refl _ _).drew), HFt.out⟩, R3.out.drew⟩
      · have R1 := Lib.hid hb
        rw [hr] at HE
        clear hb hr
        go_wp2
        go_returns
        exact ⟨.inr ⟨HE.out, rfl⟩, R1.out⟩
/-- What the reference's climb gives. -/
def RClimbIs (n i k : Nat) (x : List UInt8) (p : List (List UInt8)) (w : World) (e : Ending) (w' : World) : Prop :=
  ((∃ r A c, climbL n i (leafL x) p = some (r, p.drop (depthN n i)) ∧ e = .returned (.tuple #[.slice A 32 c, .int .i64 (depthN n i), .bool true]) ∧ depthN n i ≤ k ∧ Bytes w' A 32 c r) ∨
    (climbL n i (leafL x) p = none ∧ e = .returned (.tuple #[.slice none 0 0, .int .i64 0, .bool false]))) ∧ Below w.heap.size w w'
set_option maxRecDepth 100000 in
set_option maxHeartbeats 4000000 in
theorem refClimb_any (n : Nat) : ∀ (i : Nat) (x : List UInt8) (p : List (List UInt8)) (A : Option Addr) (m c : Nat) (A2 : Option Addr) (k c2 : Nat) (w : World), Bytes w A m c x → Lists w A2 k c2 p → i < n → n ≤ 1024 → m ≤ 100000 → few p →
    Calls Try.prog 83 #[.int .i64 n, .int .i64 i, .slice A m c, .slice A2 k c2] w (RClimbIs n i k x p w) := by
  induction n using Nat.strongRecOn with
  | ind n ih =>
  intro i x p A m c A2 k c2 w hx hp hin hn hm hf
  have IH := Lib.hid ih
  have XB := Lib.hid hx
  have PB := Lib.hid hp
  have HLp := Lib.hid hp.len
  have l1 := hp.le
  have l2 := hp.cap
  have HF := Lib.hid hf
  clear ih hx hp hf
  unfold RClimbIs
  by_cases h1 : n = 1
  · subst h1
    have HR : Hid (climbL 1 i (leafL x) p = some (leafL x, p.drop (depthN 1 i))) := by unfold Hid; rw [climbL, if_pos (by omega), depthN, if_pos (by omega)]; rfl
    have HD : Hid (depthN 1 i = 0) := by unfold Hid; rw [depthN, if_pos (by omega)]
    go_enter Try.func83, Try.ntmps83
    go_wp2_with fail
    refine (refLeaf_any _ _ _ _ _ XB.out (by omega)).mono ?_
    rintro e w2 ⟨A5, c5, rfl, hv, _, hb⟩
    have V5 := Lib.hid hv
    clear hv
    go_wp2
    go_returns
    exact ⟨.inl ⟨_, _, _, HR.out, by rw [HD.out]; rfl, by rw [HD.out]; omega, V5.out⟩, hb⟩
  · have h2 : 2 ≤ n := by omega
    have hb1 : ((n : Int) == 1) = false := by simp; omega
    clear h1
    have HRl : Hid (i < halfN n → climbL n i (leafL x) p = one nodeL (climbL (halfN n) i (leafL x) p) ∧ depthN n i = depthN (halfN n) i + 1) := fun hlt => ⟨by rw [climbL, if_neg (by omega), if_pos hlt], by rw [depthN, if_neg (by omega), if_pos hlt]⟩
    have HRr : Hid (¬ i < halfN n → climbL n i (leafL x) p = one (fun r y => nodeL y r) (climbL (n - halfN n) (i - halfN n) (leafL x) p) ∧ depthN n i = depthN (n - halfN n) (i - halfN n) + 1) := fun hlt => ⟨by rw [climbL, if_neg (by omega), if_neg hlt], by rw [depthN, if_neg (by omega), if_neg hlt]⟩
    have hk1 := half_lt h2
    have hk0 := half_pos n
    generalize hCL : climbL n i (leafL x) p = CL at *
    generalize hDD : depthN n i = DD at *
    clear hCL hDD
    go_enter Try.func83, Try.ntmps83
    go_wp2_with fail
    refine (split_any _ _ h2 (by omega)).mono ?_
    rintro e w0 ⟨rfl, rfl⟩
    generalize halfN n = q at *
    by_cases hik : i < q
    · have hiki : (i : Int) < (q : Int) := by omega
      have HE := Lib.hid (HRl.out hik).1
      have HD := Lib.hid (HRl.out hik).2
      clear HRl HRr
      go_wp2_with fail
      refine (IH.out q hk1 i x p _ _ _ _ _ _ _ XB.out PB.out hik (by omega) hm HF.out).mono ?_
      rintro e w1 ⟨⟨r, A1, c1, hr, rfl, hd1, hv⟩ | ⟨hr, rfl⟩, hb⟩
      · have R1 := Lib.hid hb
        have hs1 := hb.size
        rw [hr] at HE
        have VX := Lib.hid hv
        have PB1 := Lib.hid (PB.out.stays hb)
        generalize depthN _ _ = u at *
        clear hb hr hv
        by_cases hu : u = k
        · subst hu
          rw [one_none (by rw [List.length_drop, HLp.out, Nat.sub_self])] at HE
          go_wp2
          go_returns
          exact ⟨.inr ⟨HE.out, rfl⟩, R1.out⟩
        · have huk : u < k := by omega
          have hui : (u : Int) < (k : Int) := by omega
          have hub : ((u : Int) == (k : Int)) = false := by simp; omega
          have hud : decide (u = k) = false := by simp; omega
          rw [one_some (by rw [List.length_drop, HLp.out]; omega), List.drop_drop] at HE
          have HAt : Hid (listAt (p.drop u) 0 = listAt p u) := by unfold Hid listAt; simp [List.getD]
          rw [HAt.out] at HE
          obtain ⟨b, off, Ay, ny, cy, rfl, hc, hy⟩ := PB1.out.at_ huk
          have hny : ny ≤ 100000 := by rw [← hy.len]; exact HF.out.at_ (by rw [HLp.out]; exact huk)
          have HY := Lib.hid hy
          clear hy hu
          go_wp2_with fail
          refine (refNode_any _ _ _ _ _ _ _ _ _ VX.out HY.out (by omega) (by omega)).mono ?_
          rintro e w2 ⟨A5, c5, rfl, hv, _, hb⟩
          have V5 := Lib.hid hv
          have R2 := Lib.hid (R1.out.trans (hb.mono hs1))
          clear hv hb hc
          go_wp2
          go_returns
          exact ⟨.inl ⟨_, _, _, by rw [HD.out]; exact HE.out, by rw [HD.out]; rfl, by rw [HD.out]; omega, V5.out⟩, R2.out⟩
      · have R1 := Lib.hid hb
        rw [hr] at HE
        clear hb hr
        go_wp2
        go_returns
        exact ⟨.inr ⟨HE.out, rfl⟩, R1.out⟩
    · have hiki : ¬ (i : Int) < (q : Int) := by omega
      have HE := Lib.hid (HRr.out hik).1
      have HD := Lib.hid (HRr.out hik).2
      obtain ⟨j, hj0⟩ : ∃ j, i - q = j := ⟨_, rfl⟩
      obtain ⟨d, hd0⟩ : ∃ d, n - q = d := ⟨_, rfl⟩
      rw [hj0, hd0] at HE HD
      have hj : (i : Int) - (q : Int) = (j : Int) := by omega
      have hd : (n : Int) - (q : Int) = (d : Int) := by omega
      have hjd : j < d := by omega
      have hdn : d < n := by omega
      clear hj0 hd0 HRl HRr
      go_wp2_with fail
      refine (IH.out d hdn j x p _ _ _ _ _ _ _ XB.out PB.out hjd (by omega) hm HF.out).mono ?_
      rintro e w1 ⟨⟨r, A1, c1, hr, rfl, hd1, hv⟩ | ⟨hr, rfl⟩, hb⟩
      · have R1 := Lib.hid hb
        have hs1 := hb.size
        rw [hr] at HE
        have VX := Lib.hid hv
        have PB1 := Lib.hid (PB.out.stays hb)
        generalize depthN _ _ = u at *
        clear hb hr hv
        by_cases hu : u = k
        · subst hu
          rw [one_none (by rw [List.length_drop, HLp.out, Nat.sub_self])] at HE
          go_wp2
          go_returns
          exact ⟨.inr ⟨HE.out, rfl⟩, R1.out⟩
        · have huk : u < k := by omega
          have hui : (u : Int) < (k : Int) := by omega
          have hub : ((u : Int) == (k : Int)) = false := by simp; omega
          have hud : decide (u = k) = false := by simp; omega
          rw [one_some (by rw [List.length_drop, HLp.out]; omega), List.drop_drop] at HE
          have HAt : Hid (listAt (p.drop u) 0 = listAt p u) := by unfold Hid listAt; simp [List.getD]
          rw [HAt.out] at HE
          obtain ⟨b, off, Ay, ny, cy, rfl, hc, hy⟩ := PB1.out.at_ huk
          have hny : ny ≤ 100000 := by rw [← hy.len]; exact HF.out.at_ (by rw [HLp.out]; exact huk)
          have HY := Lib.hid hy
          clear hy hu
          go_wp2_with fail
          refine (refNode_any _ _ _ _ _ _ _ _ _ HY.out VX.out (by omega) (by omega)).mono ?_
          rintro e w2 ⟨A5, c5, rfl, hv, _, hb⟩
          have V5 := Lib.hid hv
          have R2 := Lib.hid (R1.out.trans (hb.mono hs1))
          clear hv hb hc
          go_wp2
          go_returns
          exact ⟨.inl ⟨_, _, _, by rw [HD.out]; exact HE.out, by rw [HD.out]; rfl, by rw [HD.out]; omega, V5.out⟩, R2.out⟩
      · have R1 := Lib.hid hb
        rw [hr] at HE
        clear hb hr
        go_wp2
        go_returns
        exact ⟨.inr ⟨HE.out, rfl⟩, R1.out⟩
end Go.Proofs.Ytahphlcahaheiaa
