/- Trees: following a proof of growth. -/
import Derived.Test.YtahphlcahaheiaaTreeC
import Derived.Test.YtahphlcahaheiaaBlk
import Derived.Test.YtahphlcahaheiaaShaW
namespace Go.Proofs.Ytahphlcahaheiaa
open Go.RowKit

theorem two_some {g : List UInt8 → List UInt8 → List UInt8 → List UInt8 × List UInt8} {a b : List UInt8} {rest : List (List UInt8)} (h : 0 < rest.length) : two g (some (a, b, rest)) = some ((g a b (listAt rest 0)).1, (g a b (listAt rest 0)).2, rest.drop 1) := by
  match rest, h with
  | y :: ys, _ => rfl
theorem two_none {g : List UInt8 → List UInt8 → List UInt8 → List UInt8 × List UInt8} {a b : List UInt8} {rest : List (List UInt8)} (h : rest.length = 0) : two g (some (a, b, rest)) = none := by
  match rest, h with
  | [], _ => rfl
theorem both_some {rest : List (List UInt8)} (h : 0 < rest.length) : both rest = some (listAt rest 0, listAt rest 0, rest.drop 1) := by
  match rest, h with
  | y :: ys, _ => rfl
theorem both_none {rest : List (List UInt8)} (h : rest.length = 0) : both rest = none := by
  match rest, h with
  | [], _ => rfl
set_option maxRecDepth 100000 in
set_option maxHeartbeats 4000000 in
theorem next_more (g : Nat) (o : Value) (b off k cp : Nat) (fl : Bool) (Ay : Option Addr) (ny cy : Nat) (w : World) (hB : Blk w g 83 #[o, .slice (some ⟨b, off, none⟩) k cp, .bool fl]) (hk : 0 < k) (hkc : k ≤ cp) (hcap : cp ≤ 9223372036854775807) (hc : w.cell? ⟨b, off, none⟩ = some (.slice Ay ny cy)) :
    Calls Try.prog 96 #[.pointer (some ⟨g, 0, none⟩)] w fun e w' => e = .returned (.slice Ay ny cy) ∧ w' = w.setCell ⟨g, 1, none⟩ (.slice (cutA (some ⟨b, off, none⟩) cp 1) (k - 1) (cp - 1)) := by
  have c1 : w.cell? ⟨g, 1, none⟩ = some (.slice (some ⟨b, off, none⟩) k cp) := by rw [hB.cell 1]; rfl
  have f1 := hB.frozen 1
  have s1 := run_cutFrom und_lists size_list (A := some ⟨b, off, none⟩) (n := k) (c := cp) 1 1 (k - 1) (cp - 1) rfl (by omega) rfl rfl
  have hk0 : ((k : Int) == 0) = false := by simp; omega
  have hki : (0 : Int) < (k : Int) := by omega
  have HB := Lib.hid hB
  clear hB
  go_enter Try.func96, Try.ntmps96
  go_wp2
  go_ret
  exact ⟨rfl, rfl⟩
set_option maxRecDepth 100000 in
set_option maxHeartbeats 4000000 in
theorem next_none (g : Nat) (o : Value) (Ap : Option Addr) (cp : Nat) (fl : Bool) (w : World) (hB : Blk w g 83 #[o, .slice Ap 0 cp, .bool fl]) :
    Calls Try.prog 96 #[.pointer (some ⟨g, 0, none⟩)] w fun e w' => e = .returned (.slice none 0 0) ∧ w' = w.setCell ⟨g, 2, none⟩ (.bool true) := by
  have c1 : w.cell? ⟨g, 1, none⟩ = some (.slice Ap 0 cp) := by rw [hB.cell 1]; rfl
  have c2 : w.cell? ⟨g, 2, none⟩ = some (.bool fl) := by rw [hB.cell 2]; rfl
  have f2 := hB.frozen 2
  have HB := Lib.hid hB
  clear hB
  go_enter Try.func96, Try.ntmps96
  go_wp2
  go_ret
  exact ⟨rfl, rfl⟩
/-- What roots gives: both roots and what is left of the proof, or a failure. -/
def RootsAre (R : Option (List UInt8 × List UInt8 × List (List UInt8))) (g : Nat) (o : Value) (w0 w : World) (e : Ending) (w' : World) : Prop :=
  (∃ a b A ma ca B mb cb, e = .returned (.tuple #[.slice A ma ca, .slice B mb cb]) ∧ Bytes w' A ma ca a ∧ Off A ma (some g) ∧ ma ≤ 100000 ∧ Bytes w' B mb cb b ∧ Off B mb (some g) ∧ mb ≤ 100000 ∧
    ((∃ rest Ap k cp, R = some (a, b, rest) ∧ Blk w' g 83 #[o, .slice Ap k cp, .bool false] ∧ Lists w0 Ap k cp rest ∧ few rest) ∨
      (R = none ∧ ∃ Ap cp, Blk w' g 83 #[o, .slice Ap 0 cp, .bool true]))) ∧ w.grownBy w' (some g) ∧ Below w0.heap.size w0 w'
theorem off_old {w0 : World} {A : Option Addr} {n c g : Nat} {l : List UInt8} (h : Bytes w0 A n c l) (hg : w0.heap.size ≤ g) : Off A n (some g) := fun a ha hn e => by
  injection e with e
  have := h.lt hn a ha
  omega
theorem off_fresh {w : World} {A : Option Addr} {n g : Nat} (h : Fresh w.heap.size A) (hg : g < w.heap.size) : Off A n (some g) := Off.fresh h (fun q hq => by injection hq with hq; omega)
theorem Bytes.zero (w : World) : Bytes w none 0 0 [] := Bytes.nil _ _ _ (by decide)
theorem off_zero (g : Nat) : Off none 0 (some g) := fun a ha => by cases ha
set_option maxRecDepth 100000 in
set_option maxHeartbeats 4000000 in
theorem roots_any (n : Nat) : ∀ (m : Nat) (known : Bool) (old : List UInt8) (p : List (List UInt8)) (g : Nat) (Ao : Option Addr) (no co : Nat) (Ap : Option Addr) (k cp : Nat) (w0 w : World), Below w0.heap.size w0 w → w0.heap.size ≤ g → Bytes w0 Ao no co old → Lists w0 Ap k cp p → no ≤ 100000 → few p → 1 ≤ m → m ≤ n → n ≤ 1024 →
    Blk w g 83 #[.slice Ao no co, .slice Ap k cp, .bool false] →
    Calls Try.prog 81 #[.pointer (some ⟨g, 0, none⟩), .int .i64 m, .int .i64 n, .bool known] w (RootsAre (grownL m n known old p) g (.slice Ao no co) w0 w) := by
  induction n using Nat.strongRecOn with
  | ind n ih =>
  intro m known old p g Ao no co Ap k cp w0 w hb0 hg ho hp hno hf hm1 hmn hn hB
  have IH := Lib.hid ih
  have B0 := Lib.hid hb0
  have OB := Lib.hid ho
  have PB := Lib.hid hp
  have HLp := Lib.hid hp.len
  have pl1 := hp.le
  have pl2 := hp.cap
  have HF := Lib.hid hf
  have HK := Lib.hid hB
  clear ih hb0 ho hp hf hB
  unfold RootsAre
  by_cases hmn2 : m = n
  · subst hmn2
    cases known with
    | true =>
      have HR : Hid (grownL m m true old p = some (old, old, p)) := by unfold Hid; rw [grownL, if_pos (.inr rfl)]; rfl
      have c0 : w.cell? ⟨g, 0, none⟩ = some (.slice Ao no co) := by rw [HK.out.cell 0]; rfl
      go_enter Try.func81, Try.ntmps81
      go_wp2_with fail
      refine region_still (by kernel_rfl) (by kernel_rfl) ?_
      repeat ((with_reducible refine wpStill_step (fun K hK => ?_)); go_simp; (with_reducible refine hK _ ?_); clear hK K)
      refine wpStill_nil ?_
      go_wp2
      go_returns
      exact ⟨⟨old, old, _, _, _, _, _, _, rfl, (OB.out.stays B0.out).stays ((Below.refl _ _).drew), off_old OB.out hg, hno, (OB.out.stays B0.out).stays ((Below.refl _ _).drew), off_old OB.out hg, hno, .inl ⟨_, _, _, _, HR.out, HK.out.stays ((Below.refl _ _).drew), PB.out, HF.out⟩⟩, grown_drew (World.grownBy.refl _ _), B0.out.drew⟩
    | false =>
      have HR : Hid (grownL m m false old p = both p) := by unfold Hid; rw [grownL, if_pos (.inr rfl)]; rfl
      by_cases hk : k = 0
      · subst hk
        have HE : Hid (grownL m m false old p = none) := by unfold Hid; rw [HR.out, both_none HLp.out]
        go_enter Try.func81, Try.ntmps81
        go_wp2_with fail
        refine (next_none g _ _ _ _ _ HK.out).mono ?_
        rintro e wx ⟨rfl, rfl⟩
        have HK2 := Lib.hid (HK.out.put 2 (.bool true))
        have R2 := Lib.hid (B0.out.setCell (p := ⟨g, 2, none⟩) hg (.bool true))
        go_wp2
        go_returns
        exact ⟨⟨[], [], _, _, _, _, _, _, rfl, Bytes.zero _, off_zero _, by omega, Bytes.zero _, off_zero _, by omega, .inr ⟨HE.out, _, _, HK2.out⟩⟩, grown_put (World.grownBy.refl _ _) _ _, R2.out⟩
      · have hk0 : 0 < k := by omega
        have HE : Hid (grownL m m false old p = some (listAt p 0, listAt p 0, p.drop 1)) := by unfold Hid; rw [HR.out, both_some (by rw [HLp.out]; exact hk0)]
        obtain ⟨b, off, Ay, ny, cy, rfl, hc, hy⟩ := PB.out.at_ (i := 0) hk0
        rw [Nat.add_zero] at hc
        replace hc := cell_stays B0.out hc
        have hny : ny ≤ 100000 := by rw [← hy.len]; exact HF.out.at_ (by rw [HLp.out]; exact hk0)
        have HY := Lib.hid hy
        have PT := Lib.hid (PB.out.cutFrom 1 (by omega) (d := k - 1) (k := cp - 1) rfl rfl)
        clear hy
        go_enter Try.func81, Try.ntmps81
        go_wp2_with fail
        refine (next_more g _ b off k cp false Ay ny cy _ HK.out hk0 pl1 pl2 hc).mono ?_
        rintro e wx ⟨rfl, rfl⟩
        have HK2 := Lib.hid (HK.out.put 1 (.slice (cutA (some ⟨b, off, none⟩) cp 1) (k - 1) (cp - 1)))
        have R2 := Lib.hid (B0.out.setCell (p := ⟨g, 1, none⟩) hg (.slice (cutA (some ⟨b, off, none⟩) cp 1) (k - 1) (cp - 1)))
        clear hc
        go_wp2
        go_returns
        exact ⟨⟨_, _, _, _, _, _, _, _, rfl, HY.out.stays R2.out, off_old HY.out hg, hny, HY.out.stays R2.out, off_old HY.out hg, hny, .inl ⟨_, _, _, _, HE.out, HK2.out, PT.out, HF.out.drop 1⟩⟩, grown_put (World.grownBy.refl _ _) _ _, R2.out⟩
  · have h2 : 2 ≤ n := by omega
    have hb1 : ((m : Int) == (n : Int)) = false := by simp; omega
    have hb2 : decide (m = n) = false := by simp; omega
    have HRl : Hid (m ≤ halfN n → grownL m n known old p = two (fun a b y => (a, nodeL b y)) (grownL m (halfN n) known old p)) := fun hlt => by rw [grownL, if_neg (by omega), if_pos hlt]
    have HRr : Hid (¬ m ≤ halfN n → grownL m n known old p = two (fun a b y => (nodeL y a, nodeL y b)) (grownL (m - halfN n) (n - halfN n) false old p)) := fun hlt => by rw [grownL, if_neg (by omega), if_neg hlt]
    have hk1 := half_lt h2
    have hk0 := half_pos n
    generalize hCL : grownL m n known old p = CL at *
    clear hCL
    clear hmn2
    go_enter Try.func81, Try.ntmps81
    go_wp2_with fail
    refine (half_any _ _ h2 hn).mono ?_
    rintro e wh ⟨rfl, rfl⟩
    generalize halfN n = q at *
    by_cases hmq : m ≤ q
    · have hmqi : (m : Int) ≤ (q : Int) := by omega
      have HE := Lib.hid (HRl.out hmq)
      clear HRl HRr
      go_wp2_with fail
      refine (IH.out q hk1 m known old p g _ _ _ _ _ _ w0 _ B0.out hg OB.out PB.out hno HF.out hm1 hmq (by omega) HK.out).mono ?_
      rintro e w1 ⟨⟨a, b, A1, ma, ca, A2, mb, cb, rfl, ha, oa, la, hb, ob, lb, hres⟩, hgr, hbe⟩
      have VA := Lib.hid ha
      have OA := Lib.hid oa
      have VB := Lib.hid hb
      have OB2 := Lib.hid ob
      have GR := Lib.hid hgr
      have BE := Lib.hid hbe
      clear ha oa hb ob hgr hbe HK
      rcases hres with ⟨rest, Ap3, k3, cp3, hr, hk, hl, hfr⟩ | ⟨hr, Ap3, cp3, hk⟩
      · rw [hr] at HE
        have HK1 := Lib.hid hk
        have PR := Lib.hid hl
        have HLr := Lib.hid hl.len
        have pr1 := hl.le
        have pr2 := hl.cap
        have HFr := Lib.hid hfr
        clear hr hk hl hfr
        by_cases hk0' : k3 = 0
        · subst hk0'
          rw [two_none HLr.out] at HE
          go_wp2_with fail
          refine (next_none g _ _ _ _ _ HK1.out).mono ?_
          rintro e wx ⟨rfl, rfl⟩
          have HK2 := Lib.hid (HK1.out.put 2 (.bool true))
          have BE2 := Lib.hid (BE.out.setCell (p := ⟨g, 2, none⟩) hg (.bool true))
          have GR2 := Lib.hid (grown_put GR.out 2 (.bool true))
          have VA2 := Lib.hid (VA.out.kept (grown_put (World.grownBy.refl _ _) 2 (.bool true)) OA.out)
          have VB2 := Lib.hid (VB.out.kept (grown_put (World.grownBy.refl _ _) 2 (.bool true)) OB2.out)
          have HY := Lib.hid (Bytes.zero (w1.setCell ⟨g, 2, none⟩ (.bool true)))
          have hny : (0 : Nat) ≤ 100000 := by omega
          generalize w1.setCell ⟨g, 2, none⟩ (.bool true) = w2 at *
          have hgw2 := HK2.out.lt
          have hsz2 := BE2.out.size
          clear HK1 BE GR VA VB
          go_wp2_with fail
          refine (node_any _ _ _ _ _ _ _ _ _ VB2.out HY.out (by omega) (by omega)).mono ?_
          rintro e w3 ⟨A5, c5, rfl, hv, hfr, hb⟩
          have V5 := Lib.hid hv
          have O5 := Lib.hid (off_fresh (n := 32) hfr hgw2)
          have VA3 := Lib.hid (VA2.out.stays hb)
          have HK3 := Lib.hid (HK2.out.stays hb)
          have BE3 := Lib.hid (BE2.out.trans (hb.mono hsz2))
          have GR3 := Lib.hid (GR2.out.trans (grown_of_below hb _))
          clear hv hfr hb
          go_wp2
          go_returns
          exact ⟨⟨_, _, _, _, _, _, _, _, rfl, VA3.out, OA.out, la, V5.out, O5.out, by omega, .inr ⟨HE.out, _, _, HK3.out⟩⟩, GR3.out, BE3.out⟩
        · have hk3 : 0 < k3 := by omega
          rw [two_some (by rw [HLr.out]; exact hk3)] at HE
          obtain ⟨b3, off3, Ay, ny, cy, rfl, hc, hy⟩ := PR.out.at_ (i := 0) hk3
          rw [Nat.add_zero] at hc
          replace hc := cell_stays BE.out hc
          have hny : ny ≤ 100000 := by rw [← hy.len]; exact HFr.out.at_ (by rw [HLr.out]; exact hk3)
          have HY0 := Lib.hid hy
          have OY := Lib.hid (off_old hy hg)
          have PT := Lib.hid (PR.out.cutFrom 1 (by omega) (d := k3 - 1) (k := cp3 - 1) rfl rfl)
          clear hy
          go_wp2_with fail
          refine (next_more g _ b3 off3 k3 cp3 false Ay ny cy _ HK1.out hk3 pr1 pr2 hc).mono ?_
          rintro e wx ⟨rfl, rfl⟩
          have HK2 := Lib.hid (HK1.out.put 1 (.slice (cutA (some ⟨b3, off3, none⟩) cp3 1) (k3 - 1) (cp3 - 1)))
          have BE2 := Lib.hid (BE.out.setCell (p := ⟨g, 1, none⟩) hg (.slice (cutA (some ⟨b3, off3, none⟩) cp3 1) (k3 - 1) (cp3 - 1)))
          have GR2 := Lib.hid (grown_put GR.out 1 (.slice (cutA (some ⟨b3, off3, none⟩) cp3 1) (k3 - 1) (cp3 - 1)))
          have VA2 := Lib.hid (VA.out.kept (grown_put (World.grownBy.refl _ _) 1 (.slice (cutA (some ⟨b3, off3, none⟩) cp3 1) (k3 - 1) (cp3 - 1))) OA.out)
          have VB2 := Lib.hid (VB.out.kept (grown_put (World.grownBy.refl _ _) 1 (.slice (cutA (some ⟨b3, off3, none⟩) cp3 1) (k3 - 1) (cp3 - 1))) OB2.out)
          have HY := Lib.hid (HY0.out.stays BE2.out)
          clear hc
          generalize w1.setCell ⟨g, 1, none⟩ (.slice (cutA (some ⟨b3, off3, none⟩) cp3 1) (k3 - 1) (cp3 - 1)) = w2 at *
          have hgw2 := HK2.out.lt
          have hsz2 := BE2.out.size
          clear HK1 BE GR VA VB
          go_wp2_with fail
          refine (node_any _ _ _ _ _ _ _ _ _ VB2.out HY.out (by omega) (by omega)).mono ?_
          rintro e w3 ⟨A5, c5, rfl, hv, hfr, hb⟩
          have V5 := Lib.hid hv
          have O5 := Lib.hid (off_fresh (n := 32) hfr hgw2)
          have VA3 := Lib.hid (VA2.out.stays hb)
          have HK3 := Lib.hid (HK2.out.stays hb)
          have BE3 := Lib.hid (BE2.out.trans (hb.mono hsz2))
          have GR3 := Lib.hid (GR2.out.trans (grown_of_below hb _))
          clear hv hfr hb
          go_wp2
          go_returns
          exact ⟨⟨_, _, _, _, _, _, _, _, rfl, VA3.out, OA.out, la, V5.out, O5.out, by omega, .inl ⟨_, _, _, _, HE.out, HK3.out, PT.out, HFr.out.drop 1⟩⟩, GR3.out, BE3.out⟩
      · rw [hr] at HE
        have HK1 := Lib.hid hk
        clear hr hk
        go_wp2_with fail
        refine (next_none g _ _ _ _ _ HK1.out).mono ?_
        rintro e wx ⟨rfl, rfl⟩
        have HK2 := Lib.hid (HK1.out.put 2 (.bool true))
        have BE2 := Lib.hid (BE.out.setCell (p := ⟨g, 2, none⟩) hg (.bool true))
        have GR2 := Lib.hid (grown_put GR.out 2 (.bool true))
        have VA2 := Lib.hid (VA.out.kept (grown_put (World.grownBy.refl _ _) 2 (.bool true)) OA.out)
        have VB2 := Lib.hid (VB.out.kept (grown_put (World.grownBy.refl _ _) 2 (.bool true)) OB2.out)
        have HY := Lib.hid (Bytes.zero (w1.setCell ⟨g, 2, none⟩ (.bool true)))
        have hny : (0 : Nat) ≤ 100000 := by omega
        generalize w1.setCell ⟨g, 2, none⟩ (.bool true) = w2 at *
        have hgw2 := HK2.out.lt
        have hsz2 := BE2.out.size
        clear HK1 BE GR VA VB
        go_wp2_with fail
        refine (node_any _ _ _ _ _ _ _ _ _ VB2.out HY.out (by omega) (by omega)).mono ?_
        rintro e w3 ⟨A5, c5, rfl, hv, hfr, hb⟩
        have V5 := Lib.hid hv
        have O5 := Lib.hid (off_fresh (n := 32) hfr hgw2)
        have VA3 := Lib.hid (VA2.out.stays hb)
        have HK3 := Lib.hid (HK2.out.stays hb)
        have BE3 := Lib.hid (BE2.out.trans (hb.mono hsz2))
        have GR3 := Lib.hid (GR2.out.trans (grown_of_below hb _))
        clear hv hfr hb
        go_wp2
        go_returns
        exact ⟨⟨_, _, _, _, _, _, _, _, rfl, VA3.out, OA.out, la, V5.out, O5.out, by omega, .inr ⟨HE.out, _, _, HK3.out⟩⟩, GR3.out, BE3.out⟩
    · have hmqi : ¬ (m : Int) ≤ (q : Int) := by omega
      have HE := Lib.hid (HRr.out hmq)
      obtain ⟨j, hj0⟩ : ∃ j, m - q = j := ⟨_, rfl⟩
      obtain ⟨d, hd0⟩ : ∃ d, n - q = d := ⟨_, rfl⟩
      rw [hj0, hd0] at HE
      have hj : (m : Int) - (q : Int) = (j : Int) := by omega
      have hd : (n : Int) - (q : Int) = (d : Int) := by omega
      have hjd : j ≤ d := by omega
      have hj1 : 1 ≤ j := by omega
      have hdn : d < n := by omega
      clear hj0 hd0 HRl HRr
      go_wp2_with fail
      refine (IH.out d hdn j false old p g _ _ _ _ _ _ w0 _ B0.out hg OB.out PB.out hno HF.out hj1 hjd (by omega) HK.out).mono ?_
      rintro e w1 ⟨⟨a, b, A1, ma, ca, A2, mb, cb, rfl, ha, oa, la, hb, ob, lb, hres⟩, hgr, hbe⟩
      have VA := Lib.hid ha
      have OA := Lib.hid oa
      have VB := Lib.hid hb
      have OB2 := Lib.hid ob
      have GR := Lib.hid hgr
      have BE := Lib.hid hbe
      clear ha oa hb ob hgr hbe HK
      rcases hres with ⟨rest, Ap3, k3, cp3, hr, hk, hl, hfr⟩ | ⟨hr, Ap3, cp3, hk⟩
      · rw [hr] at HE
        have HK1 := Lib.hid hk
        have PR := Lib.hid hl
        have HLr := Lib.hid hl.len
        have pr1 := hl.le
        have pr2 := hl.cap
        have HFr := Lib.hid hfr
        clear hr hk hl hfr
        by_cases hk0' : k3 = 0
        · subst hk0'
          rw [two_none HLr.out] at HE
          go_wp2_with fail
          refine (next_none g _ _ _ _ _ HK1.out).mono ?_
          rintro e wx ⟨rfl, rfl⟩
          have HK2 := Lib.hid (HK1.out.put 2 (.bool true))
          have BE2 := Lib.hid (BE.out.setCell (p := ⟨g, 2, none⟩) hg (.bool true))
          have GR2 := Lib.hid (grown_put GR.out 2 (.bool true))
          have VA2 := Lib.hid (VA.out.kept (grown_put (World.grownBy.refl _ _) 2 (.bool true)) OA.out)
          have VB2 := Lib.hid (VB.out.kept (grown_put (World.grownBy.refl _ _) 2 (.bool true)) OB2.out)
          have HY := Lib.hid (Bytes.zero (w1.setCell ⟨g, 2, none⟩ (.bool true)))
          have hny : (0 : Nat) ≤ 100000 := by omega
          generalize w1.setCell ⟨g, 2, none⟩ (.bool true) = w2 at *
          have hgw2 := HK2.out.lt
          have hsz2 := BE2.out.size
          clear HK1 BE GR VA VB
          go_wp2_with fail
          refine (node_any _ _ _ _ _ _ _ _ _ HY.out VA2.out (by omega) (by omega)).mono ?_
          rintro e w3 ⟨A5, c5, rfl, hv, hfr, hb⟩
          have V5 := Lib.hid hv
          have O5 := Lib.hid (off_fresh (n := 32) hfr hgw2)
          have VB3 := Lib.hid (VB2.out.stays hb)
          have HY3 := Lib.hid (HY.out.stays hb)
          have HK3 := Lib.hid (HK2.out.stays hb)
          have BE3 := Lib.hid (BE2.out.trans (hb.mono hsz2))
          have GR3 := Lib.hid (GR2.out.trans (grown_of_below hb _))
          have hgw3 := HK3.out.lt
          have hsz3 := BE3.out.size
          clear hv hfr hb
          go_wp2_with fail
          refine (node_any _ _ _ _ _ _ _ _ _ HY3.out VB3.out (by omega) (by omega)).mono ?_
          rintro e w4 ⟨A6, c6, rfl, hv, hfr, hb⟩
          have V6 := Lib.hid hv
          have O6 := Lib.hid (off_fresh (n := 32) hfr hgw3)
          have V5 := Lib.hid (V5.out.stays hb)
          have HK4 := Lib.hid (HK3.out.stays hb)
          have BE4 := Lib.hid (BE3.out.trans (hb.mono hsz3))
          have GR4 := Lib.hid (GR3.out.trans (grown_of_below hb _))
          clear hv hfr hb
          go_wp2
          go_returns
          exact ⟨⟨_, _, _, _, _, _, _, _, rfl, V5.out, O5.out, by omega, V6.out, O6.out, by omega, .inr ⟨HE.out, _, _, HK4.out⟩⟩, GR4.out, BE4.out⟩
        · have hk3 : 0 < k3 := by omega
          rw [two_some (by rw [HLr.out]; exact hk3)] at HE
          obtain ⟨b3, off3, Ay, ny, cy, rfl, hc, hy⟩ := PR.out.at_ (i := 0) hk3
          rw [Nat.add_zero] at hc
          replace hc := cell_stays BE.out hc
          have hny : ny ≤ 100000 := by rw [← hy.len]; exact HFr.out.at_ (by rw [HLr.out]; exact hk3)
          have HY0 := Lib.hid hy
          have OY := Lib.hid (off_old hy hg)
          have PT := Lib.hid (PR.out.cutFrom 1 (by omega) (d := k3 - 1) (k := cp3 - 1) rfl rfl)
          clear hy
          go_wp2_with fail
          refine (next_more g _ b3 off3 k3 cp3 false Ay ny cy _ HK1.out hk3 pr1 pr2 hc).mono ?_
          rintro e wx ⟨rfl, rfl⟩
          have HK2 := Lib.hid (HK1.out.put 1 (.slice (cutA (some ⟨b3, off3, none⟩) cp3 1) (k3 - 1) (cp3 - 1)))
          have BE2 := Lib.hid (BE.out.setCell (p := ⟨g, 1, none⟩) hg (.slice (cutA (some ⟨b3, off3, none⟩) cp3 1) (k3 - 1) (cp3 - 1)))
          have GR2 := Lib.hid (grown_put GR.out 1 (.slice (cutA (some ⟨b3, off3, none⟩) cp3 1) (k3 - 1) (cp3 - 1)))
          have VA2 := Lib.hid (VA.out.kept (grown_put (World.grownBy.refl _ _) 1 (.slice (cutA (some ⟨b3, off3, none⟩) cp3 1) (k3 - 1) (cp3 - 1))) OA.out)
          have VB2 := Lib.hid (VB.out.kept (grown_put (World.grownBy.refl _ _) 1 (.slice (cutA (some ⟨b3, off3, none⟩) cp3 1) (k3 - 1) (cp3 - 1))) OB2.out)
          have HY := Lib.hid (HY0.out.stays BE2.out)
          clear hc
          generalize w1.setCell ⟨g, 1, none⟩ (.slice (cutA (some ⟨b3, off3, none⟩) cp3 1) (k3 - 1) (cp3 - 1)) = w2 at *
          have hgw2 := HK2.out.lt
          have hsz2 := BE2.out.size
          clear HK1 BE GR VA VB
          go_wp2_with fail
          refine (node_any _ _ _ _ _ _ _ _ _ HY.out VA2.out (by omega) (by omega)).mono ?_
          rintro e w3 ⟨A5, c5, rfl, hv, hfr, hb⟩
          have V5 := Lib.hid hv
          have O5 := Lib.hid (off_fresh (n := 32) hfr hgw2)
          have VB3 := Lib.hid (VB2.out.stays hb)
          have HY3 := Lib.hid (HY.out.stays hb)
          have HK3 := Lib.hid (HK2.out.stays hb)
          have BE3 := Lib.hid (BE2.out.trans (hb.mono hsz2))
          have GR3 := Lib.hid (GR2.out.trans (grown_of_below hb _))
          have hgw3 := HK3.out.lt
          have hsz3 := BE3.out.size
          clear hv hfr hb
          go_wp2_with fail
          refine (node_any _ _ _ _ _ _ _ _ _ HY3.out VB3.out (by omega) (by omega)).mono ?_
          rintro e w4 ⟨A6, c6, rfl, hv, hfr, hb⟩
          have V6 := Lib.hid hv
          have O6 := Lib.hid (off_fresh (n := 32) hfr hgw3)
          have V5 := Lib.hid (V5.out.stays hb)
          have HK4 := Lib.hid (HK3.out.stays hb)
          have BE4 := Lib.hid (BE3.out.trans (hb.mono hsz3))
          have GR4 := Lib.hid (GR3.out.trans (grown_of_below hb _))
          clear hv hfr hb
          go_wp2
          go_returns
          exact ⟨⟨_, _, _, _, _, _, _, _, rfl, V5.out, O5.out, by omega, V6.out, O6.out, by omega, .inl ⟨_, _, _, _, HE.out, HK4.out, PT.out, HFr.out.drop 1⟩⟩, GR4.out, BE4.out⟩
      · rw [hr] at HE
        have HK1 := Lib.hid hk
        clear hr hk
        go_wp2_with fail
        refine (next_none g _ _ _ _ _ HK1.out).mono ?_
        rintro e wx ⟨rfl, rfl⟩
        have HK2 := Lib.hid (HK1.out.put 2 (.bool true))
        have BE2 := Lib.hid (BE.out.setCell (p := ⟨g, 2, none⟩) hg (.bool true))
        have GR2 := Lib.hid (grown_put GR.out 2 (.bool true))
        have VA2 := Lib.hid (VA.out.kept (grown_put (World.grownBy.refl _ _) 2 (.bool true)) OA.out)
        have VB2 := Lib.hid (VB.out.kept (grown_put (World.grownBy.refl _ _) 2 (.bool true)) OB2.out)
        have HY := Lib.hid (Bytes.zero (w1.setCell ⟨g, 2, none⟩ (.bool true)))
        have hny : (0 : Nat) ≤ 100000 := by omega
        generalize w1.setCell ⟨g, 2, none⟩ (.bool true) = w2 at *
        have hgw2 := HK2.out.lt
        have hsz2 := BE2.out.size
        clear HK1 BE GR VA VB
        go_wp2_with fail
        refine (node_any _ _ _ _ _ _ _ _ _ HY.out VA2.out (by omega) (by omega)).mono ?_
        rintro e w3 ⟨A5, c5, rfl, hv, hfr, hb⟩
        have V5 := Lib.hid hv
        have O5 := Lib.hid (off_fresh (n := 32) hfr hgw2)
        have VB3 := Lib.hid (VB2.out.stays hb)
        have HY3 := Lib.hid (HY.out.stays hb)
        have HK3 := Lib.hid (HK2.out.stays hb)
        have BE3 := Lib.hid (BE2.out.trans (hb.mono hsz2))
        have GR3 := Lib.hid (GR2.out.trans (grown_of_below hb _))
        have hgw3 := HK3.out.lt
        have hsz3 := BE3.out.size
        clear hv hfr hb
        go_wp2_with fail
        refine (node_any _ _ _ _ _ _ _ _ _ HY3.out VB3.out (by omega) (by omega)).mono ?_
        rintro e w4 ⟨A6, c6, rfl, hv, hfr, hb⟩
        have V6 := Lib.hid hv
        have O6 := Lib.hid (off_fresh (n := 32) hfr hgw3)
        have V5 := Lib.hid (V5.out.stays hb)
        have HK4 := Lib.hid (HK3.out.stays hb)
        have BE4 := Lib.hid (BE3.out.trans (hb.mono hsz3))
        have GR4 := Lib.hid (GR3.out.trans (grown_of_below hb _))
        clear hv hfr hb
        go_wp2
        go_returns
        exact ⟨⟨_, _, _, _, _, _, _, _, rfl, V5.out, O5.out, by omega, V6.out, O6.out, by omega, .inr ⟨HE.out, _, _, HK4.out⟩⟩, GR4.out, BE4.out⟩
end Go.Proofs.Ytahphlcahaheiaa
