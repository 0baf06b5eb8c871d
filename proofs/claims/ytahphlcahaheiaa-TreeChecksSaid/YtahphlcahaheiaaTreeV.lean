/- Trees: the reference follows a proof of growth. -/
import Derived.Test.YtahphlcahaheiaaTreeR
import Derived.Deep.RegionHeld3
namespace Go.Proofs.Ytahphlcahaheiaa
open Go.RowKit

/-- The number of elements that a proof of growth uses. -/
def depthG (m n : Nat) (known : Bool) : Nat :=
  if n ≤ 1 ∨ m = n then (if known then 0 else 1) else if m ≤ halfN n then depthG m (halfN n) known + 1 else depthG (m - halfN n) (n - halfN n) false + 1
termination_by n
decreasing_by
  · exact half_lt (by omega)
  · have := half_pos n; omega
/-- What the reference's grown gives. -/
def GrownIs (m n k : Nat) (known : Bool) (old : List UInt8) (p : List (List UInt8)) (w : World) (e : Ending) (w' : World) : Prop :=
  ((∃ a b A ma ca B mb cb, grownL m n known old p = some (a, b, p.drop (depthG m n known)) ∧ e = .returned (.tuple #[.slice A ma ca, .slice B mb cb, .int .i64 (depthG m n known), .bool true]) ∧ depthG m n known ≤ k ∧
      Bytes w' A ma ca a ∧ ma ≤ 100000 ∧ Bytes w' B mb cb b ∧ mb ≤ 100000) ∨
    (grownL m n known old p = none ∧ e = .returned (.tuple #[.slice none 0 0, .slice none 0 0, .int .i64 0, .bool false]))) ∧ Below w.heap.size w w'
set_option maxRecDepth 100000 in
set_option maxHeartbeats 4000000 in
theorem grown_any (n : Nat) : ∀ (m : Nat) (known : Bool) (old : List UInt8) (p : List (List UInt8)) (Ao : Option Addr) (no co : Nat) (Ap : Option Addr) (k cp : Nat) (w : World), Bytes w Ao no co old → Lists w Ap k cp p → no ≤ 100000 → few p → 1 ≤ m → m ≤ n → n ≤ 1024 →
    Calls Try.prog 82 #[.int .i64 m, .int .i64 n, .bool known, .slice Ao no co, .slice Ap k cp] w (GrownIs m n k known old p w) := by
  induction n using Nat.strongRecOn with
  | ind n ih =>
  intro m known old p Ao no co Ap k cp w ho hp hno hf hm1 hmn hn
  have IH := Lib.hid ih
  have OB := Lib.hid ho
  have PB := Lib.hid hp
  have HLp := Lib.hid hp.len
  have pl1 := hp.le
  have pl2 := hp.cap
  have HF := Lib.hid hf
  clear ih ho hp hf
  unfold GrownIs
  by_cases hmn2 : m = n
  · subst hmn2
    cases known with
    | true =>
      have HD : Hid (depthG m m true = 0) := by unfold Hid; rw [depthG, if_pos (.inr rfl)]; rfl
      have HR : Hid (grownL m m true old p = some (old, old, p.drop (depthG m m true))) := by unfold Hid; rw [HD.out, grownL, if_pos (.inr rfl)]; rfl
      go_enter Try.func82, Try.ntmps82
      go_wp2
      go_returns
      exact ⟨.inl ⟨_, _, _, _, _, _, _, _, HR.out, by rw [HD.out]; rfl, by rw [HD.out]; omega, OB.out, hno, OB.out, hno⟩, Below.refl _ _⟩
    | false =>
      have HR : Hid (grownL m m false old p = both p) := by unfold Hid; rw [grownL, if_pos (.inr rfl)]; rfl
      have HD : Hid (depthG m m false = 1) := by unfold Hid; rw [depthG, if_pos (.inr rfl)]; rfl
      by_cases hk : k = 0
      · subst hk
        have HE : Hid (grownL m m false old p = none) := by unfold Hid; rw [HR.out, both_none HLp.out]
        go_enter Try.func82, Try.ntmps82
        go_wp2
        go_returns
        exact ⟨.inr ⟨HE.out, rfl⟩, Below.refl _ _⟩
      · have hk0 : 0 < k := by omega
        have HE : Hid (grownL m m false old p = some (listAt p 0, listAt p 0, p.drop 1)) := by unfold Hid; rw [HR.out, both_some (by rw [HLp.out]; exact hk0)]
        obtain ⟨b, off, Ay, ny, cy, rfl, hc, hy⟩ := PB.out.at_ (i := 0) hk0
        rw [Nat.add_zero] at hc
        have hny : ny ≤ 100000 := by rw [← hy.len]; exact HF.out.at_ (by rw [HLp.out]; exact hk0)
        have HY := Lib.hid hy
        have hk0b : ((k : Int) == 0) = false := by simp; omega
        have hk0i : (0 : Int) < (k : Int) := by omega
        clear hy
        go_enter Try.func82, Try.ntmps82
        go_wp2_with fail
        refine region_still (by kernel_rfl) (by kernel_rfl) ?_
        repeat ((with_reducible refine wpStill_step (fun K hK => ?_)); go_simp; (with_reducible refine hK _ ?_); clear hK K)
        refine wpStill_nil ?_
        go_wp2
        go_returns
        exact ⟨.inl ⟨_, _, _, _, _, _, _, _, by rw [HD.out]; exact HE.out, by rw [HD.out]; rfl, by rw [HD.out]; omega, HY.out.stays ((Below.refl _ _).drew), hny, HY.out.stays ((Below.refl _ _).drew), hny⟩, (Below.refl _ _).drew⟩
  · have h2 : 2 ≤ n := by omega
    have hb1 : ((m : Int) == (n : Int)) = false := by simp; omega
    have hb2 : decide (m = n) = false := by simp; omega
    have HRl : Hid (m ≤ halfN n → grownL m n known old p = two (fun a b y => (a, nodeL b y)) (grownL m (halfN n) known old p) ∧ depthG m n known = depthG m (halfN n) known + 1) := fun hlt => ⟨by rw [grownL, if_neg (by omega), if_pos hlt], by rw [depthG, if_neg (by omega), if_pos hlt]⟩
    have HRr : Hid (¬ m ≤ halfN n → grownL m n known old p = two (fun a b y => (nodeL y a, nodeL y b)) (grownL (m - halfN n) (n - halfN n) false old p) ∧ depthG m n known = depthG (m - halfN n) (n - halfN n) false + 1) := fun hlt => ⟨by rw [grownL, if_neg (by omega), if_neg hlt], by rw [depthG, if_neg (by omega), if_neg hlt]⟩
    have hk1 := half_lt h2
    have hk0 := half_pos n
    generalize hCL : grownL m n known old p = CL at *
    generalize hDD : depthG m n known = DD at *
    clear hCL hDD hmn2
    go_enter Try.func82, Try.ntmps82
    go_wp2_with fail
    refine (split_any _ _ h2 (by omega)).mono ?_
    rintro e wh ⟨rfl, rfl⟩
    generalize halfN n = q at *
    by_cases hmq : m ≤ q
    · have hmqi : (m : Int) ≤ (q : Int) := by omega
      have HE := Lib.hid (HRl.out hmq).1
      have HD := Lib.hid (HRl.out hmq).2
      clear HRl HRr
      go_wp2_with fail
      refine (IH.out q hk1 m known old p _ _ _ _ _ _ _ OB.out PB.out hno HF.out hm1 hmq (by omega)).mono ?_
      rintro e w1 ⟨⟨a, b, A1, ma, ca, A2, mb, cb, hr, rfl, hd1, ha, la, hb', lb⟩ | ⟨hr, rfl⟩, hb⟩
      · have R1 := Lib.hid hb
        have hs1 := hb.size
        rw [hr] at HE
        have VA := Lib.hid ha
        have VB := Lib.hid hb'
        have PB1 := Lib.hid (PB.out.stays hb)
        generalize depthG _ _ _ = u at *
        clear hb hr ha hb'
        by_cases hu : u = k
        · subst hu
          rw [two_none (by rw [List.length_drop, HLp.out, Nat.sub_self])] at HE
          go_wp2
          go_returns
          exact ⟨.inr ⟨HE.out, rfl⟩, R1.out⟩
        · have huk : u < k := by omega
          have hui : (u : Int) < (k : Int) := by omega
          have hu0 : (0 : Int) ≤ (u : Int) := by omega
          have hub : ((u : Int) == (k : Int)) = false := by simp; omega
          have hud : decide (u = k) = false := by simp; omega
          rw [two_some (by rw [List.length_drop, HLp.out]; omega), List.drop_drop] at HE
          have HAt : Hid (listAt (p.drop u) 0 = listAt p u) := by unfold Hid listAt; simp [List.getD]
          rw [HAt.out] at HE
          obtain ⟨b3, off3, Ay, ny, cy, rfl, hc, hy⟩ := PB1.out.at_ huk
          have hny : ny ≤ 100000 := by rw [← hy.len]; exact HF.out.at_ (by rw [HLp.out]; exact huk)
          have HY := Lib.hid hy
          clear hy hu
          go_wp2_with fail
          refine (refNode_any _ _ _ _ _ _ _ _ _ VB.out HY.out (by omega) (by omega)).mono ?_
          rintro e w2 ⟨A5, c5, rfl, hv, _, hb⟩
          have V5 := Lib.hid hv
          have VA := Lib.hid (VA.out.stays hb)
          have R2 := Lib.hid (R1.out.trans (hb.mono hs1))
          clear hv hb hc
          go_wp2
          go_returns
          exact ⟨.inl ⟨_, _, _, _, _, _, _, _, by rw [HD.out]; exact HE.out, by rw [HD.out]; rfl, by rw [HD.out]; omega, VA.out, la, V5.out, by omega⟩, R2.out⟩
      · have R1 := Lib.hid hb
        rw [hr] at HE
        clear hb hr
        go_wp2
        go_returns
        exact ⟨.inr ⟨HE.out, rfl⟩, R1.out⟩
    · have hmqi : ¬ (m : Int) ≤ (q : Int) := by omega
      have HE := Lib.hid (HRr.out hmq).1
      have HD := Lib.hid (HRr.out hmq).2
      obtain ⟨j, hj0⟩ : ∃ j, m - q = j := ⟨_, rfl⟩
      obtain ⟨d, hd0⟩ : ∃ d, n - q = d := ⟨_, rfl⟩
      rw [hj0, hd0] at HE HD
      have hj : (m : Int) - (q : Int) = (j : Int) := by omega
      have hd : (n : Int) - (q : Int) = (d : Int) := by omega
      have hjd : j ≤ d := by omega
      have hj1 : 1 ≤ j := by omega
      have hdn : d < n := by omega
      clear hj0 hd0 HRl HRr
      go_wp2_with fail
      refine (IH.out d hdn j false old p _ _ _ _ _ _ _ OB.out PB.out hno HF.out hj1 hjd (by omega)).mono ?_
      rintro e w1 ⟨⟨a, b, A1, ma, ca, A2, mb, cb, hr, rfl, hd1, ha, la, hb', lb⟩ | ⟨hr, rfl⟩, hb⟩
      · have R1 := Lib.hid hb
        have hs1 := hb.size
        rw [hr] at HE
        have VA := Lib.hid ha
        have VB := Lib.hid hb'
        have PB1 := Lib.hid (PB.out.stays hb)
        generalize depthG _ _ _ = u at *
        clear hb hr ha hb'
        by_cases hu : u = k
        · subst hu
          rw [two_none (by rw [List.length_drop, HLp.out, Nat.sub_self])] at HE
          go_wp2
          go_returns
          exact ⟨.inr ⟨HE.out, rfl⟩, R1.out⟩
        · have huk : u < k := by omega
          have hui : (u : Int) < (k : Int) := by omega
          have hu0 : (0 : Int) ≤ (u : Int) := by omega
          have hub : ((u : Int) == (k : Int)) = false := by simp; omega
          have hud : decide (u = k) = false := by simp; omega
          rw [two_some (by rw [List.length_drop, HLp.out]; omega), List.drop_drop] at HE
          have HAt : Hid (listAt (p.drop u) 0 = listAt p u) := by unfold Hid listAt; simp [List.getD]
          rw [HAt.out] at HE
          obtain ⟨b3, off3, Ay, ny, cy, rfl, hc, hy⟩ := PB1.out.at_ huk
          have hny : ny ≤ 100000 := by rw [← hy.len]; exact HF.out.at_ (by rw [HLp.out]; exact huk)
          have HY := Lib.hid hy
          clear hy hu
          have uw : IntKind.i64.wrap ((u : Int) + 1) = (u : Int) + 1 := IntWalk.i64_in _ (by omega)
          have tok1 : True := trivial
          go_wp2_with fail
          go_region_held3 (fun w' => w'.cell? ⟨b3, off3 + u, none⟩ = some (.slice Ay ny cy)) (go_keep)
            (first
              | (go_at_call 52; have _t := tok1; clear tok1; refine (refNode_any _ _ _ _ _ _ _ _ _ (HY.out.stays (by go_grown)) (VA.out.stays (by go_grown)) (by omega) (by omega)).mono ?_; rintro e x2 ⟨A5, c5, rfl, v5, _, hb⟩; have R2 : Below w1.heap.size w1 x2 := below_via (by go_grown) hb (by first | (simp; done) | (simp; omega)); have z0 := cell_stays R2 hc)
              | (go_at_call 52; refine (refNode_any _ _ _ _ _ _ _ _ _ (HY.out.stays (R2.trans (by go_grown))) (VB.out.stays (R2.trans (by go_grown))) (by omega) (by omega)).mono ?_; rintro e x3 ⟨A6, c6, rfl, v6, _, hb⟩; have v5' := v5.stays (below_via (by go_grown) hb (by first | (simp; done) | (simp; omega))); have R3 : Below w1.heap.size w1 x3 := R2.trans ((below_via (by go_grown) hb (by first | (simp; done) | (simp; omega))).mono R2.size); have y0 := cell_stays R3 hc))
          all_goals
            have V5 := Lib.hid v5'
            have V6 := Lib.hid v6
            have R4 := Lib.hid (R1.out.trans (R3.mono hs1))
            clear v5' v6 hb hc
            go_wp2
            go_returns
            first
              | exact ⟨.inl ⟨_, _, _, _, _, _, _, _, by rw [HD.out]; exact HE.out, by rw [HD.out]; rfl, by rw [HD.out]; omega, V5.out, by omega, V6.out, by omega⟩, R4.out⟩
              | exact ⟨.inl ⟨_, _, _, _, _, _, _, _, by rw [HD.out]; exact HE.out, by rw [HD.out]; rfl, by rw [HD.out]; omega, V5.out.stays ((Below.refl _ _).drew), by omega, V6.out.stays ((Below.refl _ _).drew), by omega⟩, R4.out.drew⟩
      · have R1 := Lib.hid hb
        rw [hr] at HE
        clear hb hr
        go_wp2
        go_returns
        exact ⟨.inr ⟨HE.out, rfl⟩, R1.out⟩
end Go.Proofs.Ytahphlcahaheiaa
