/- Trees: CheckGrowth of both. -/
import Derived.Test.YtahphlcahaheiaaTreeV
import Derived.Test.YtahphlcahaheiaaEq
import Derived.Test.YtahphlcahaheiaaSame
namespace Go.Proofs.Ytahphlcahaheiaa
open Go.RowKit

/-- What CheckGrowth says. -/
def growB (old : List UInt8) (m : Nat) (now : List UInt8) (n : Nat) (p : List (List UInt8)) : Bool :=
  match grownL m n true old p with
  | some (a, b, []) => decide (a = old) && decide (b = now)
  | _ => false
theorem growB_some {old now a b : List UInt8} {m n : Nat} {p rest : List (List UInt8)} (h : grownL m n true old p = some (a, b, rest)) : growB old m now n p = (decide (rest.length = 0) && (decide (a = old) && decide (b = now))) := by
  unfold growB
  rw [h]
  cases rest with
  | nil => simp
  | cons y ys => simp
theorem growB_none {old now : List UInt8} {m n : Nat} {p : List (List UInt8)} (h : grownL m n true old p = none) : growB old m now n p = false := by
  unfold growB
  rw [h]
set_option maxRecDepth 100000 in
set_option maxHeartbeats 4000000 in
theorem grow_any (old now : List UInt8) (m n : Nat) (p : List (List UInt8)) (Ao : Option Addr) (no co : Nat) (An : Option Addr) (nn cn : Nat) (Ap : Option Addr) (k cp : Nat) (w : World) (ho : Bytes w Ao no co old) (hw : Bytes w An nn cn now) (hp : Lists w Ap k cp p) (hno : no ≤ 100000) (hf : few p) (hm1 : 1 ≤ m) (hmn : m ≤ n) (hn : n ≤ 1024) :
    Calls Try.prog 54 #[.slice Ao no co, .int .i64 m, .slice An nn cn, .int .i64 n, .slice Ap k cp] w fun e w' => e = .returned (.bool (growB old m now n p)) ∧ Below w.heap.size w w' := by
  have OB := Lib.hid ho
  have NB := Lib.hid hw
  have PB := Lib.hid hp
  have HLp := Lib.hid hp.len
  have pl1 := hp.le
  have pl2 := hp.cap
  have HF := Lib.hid hf
  have b1 : ¬ (m : Int) < 1 := by omega
  have b2 : ¬ (m : Int) > (n : Int) := by omega
  have b3 : ¬ (n : Int) > 1024 := by omega
  clear ho hw hp hf
  go_enter Try.func54, Try.ntmps54
  go_wp2_with fail
  have hB0 := Blk.new w 83 #[.slice Ao no co, .slice Ap k cp, .bool false]
  have ha0 : Below w.heap.size w (w.alloc (.cells #[.slice Ao no co, .slice Ap k cp, .bool false] 83)) := (Below.refl _ _).alloc (Nat.le_refl _) _
  refine (roots_any n m true old p w.heap.size _ _ _ _ _ _ w _ ha0 (Nat.le_refl _) OB.out PB.out (by omega) HF.out hm1 hmn hn hB0).mono ?_
  rintro e w1 ⟨⟨a, b, A1, ma, ca, A2, mb, cb, rfl, ha, _, la, hb, _, lb, hres⟩, _, hbe⟩
  have VA := Lib.hid ha
  have VB := Lib.hid hb
  have RR := Lib.hid hbe
  have OB := Lib.hid (OB.out.stays hbe)
  have NB := Lib.hid (NB.out.stays hbe)
  clear ha hb hbe hB0 ha0
  rcases hres with ⟨rest, Ap3, k3, cp3, hr, hk, hl, _⟩ | ⟨hr, Ap3, cp3, hk⟩
  · have HG := Lib.hid (growB_some (now := now) hr)
    rw [hl.len] at HG
    have c1 : w1.cell? ⟨w.heap.size, 1, none⟩ = some (.slice Ap3 k3 cp3) := by rw [hk.cell 1]; rfl
    have c2 : w1.cell? ⟨w.heap.size, 2, none⟩ = some (.bool false) := by rw [hk.cell 2]; rfl
    have HKK := Lib.hid hk
    have pl3 := hl.le
    have pl4 := hl.cap
    clear hr hl hk
    by_cases hk3 : k3 = 0
    · subst hk3
      have HG : Hid (growB old m now n p = (decide (a = old) && decide (b = now))) := by have := HG.out; simpa [Hid] using this
      by_cases hea : a = old
      · have HA := Lib.hid hea
        by_cases heb : b = now
        · have HBn := Lib.hid heb
          clear hea heb
          go_wp2_with fail
          refine (octSame_any _ _ _ a _ _ _ old _ VA.out OB.out).mono ?_
          rintro e wz ⟨rfl, rfl⟩
          rw [decide_eq_true HA.out]
          go_wp2_with fail
          refine (octSame_any _ _ _ b _ _ _ now _ VB.out NB.out).mono ?_
          rintro e wz ⟨rfl, rfl⟩
          rw [decide_eq_true HBn.out]
          go_wp2
          go_ret
          exact ⟨by rw [HG.out, decide_eq_true HA.out, decide_eq_true HBn.out]; rfl, RR.out⟩
        · have HBn := Lib.hid heb
          clear hea heb
          go_wp2_with fail
          refine (octSame_any _ _ _ a _ _ _ old _ VA.out OB.out).mono ?_
          rintro e wz ⟨rfl, rfl⟩
          rw [decide_eq_true HA.out]
          go_wp2_with fail
          refine (octSame_any _ _ _ b _ _ _ now _ VB.out NB.out).mono ?_
          rintro e wz ⟨rfl, rfl⟩
          rw [decide_eq_false HBn.out]
          go_wp2
          go_ret
          exact ⟨by rw [HG.out, decide_eq_true HA.out, decide_eq_false HBn.out]; rfl, RR.out⟩
      · have HA := Lib.hid hea
        clear hea
        go_wp2_with fail
        refine (octSame_any _ _ _ a _ _ _ old _ VA.out OB.out).mono ?_
        rintro e wz ⟨rfl, rfl⟩
        rw [decide_eq_false HA.out]
        go_wp2
        go_ret
        exact ⟨by rw [HG.out, decide_eq_false HA.out]; rfl, RR.out⟩
    · have hkb : ((k3 : Int) == 0) = false := by simp; omega
      have HG : Hid (growB old m now n p = false) := by have := HG.out; rw [decide_eq_false hk3] at this; simpa [Hid] using this
      go_wp2
      go_ret
      exact ⟨by rw [HG.out]; rfl, RR.out⟩
  · have HG := Lib.hid (growB_none (now := now) hr)
    have c2 : w1.cell? ⟨w.heap.size, 2, none⟩ = some (.bool true) := by rw [hk.cell 2]; rfl
    have HKK := Lib.hid hk
    clear hr hk
    go_wp2
    go_ret
    exact ⟨by rw [HG.out]; rfl, RR.out⟩
set_option maxRecDepth 100000 in
set_option maxHeartbeats 4000000 in
theorem grow_bad (m n : Int) (Ao : Option Addr) (no co : Nat) (An : Option Addr) (nn cn : Nat) (Ap : Option Addr) (k cp : Nat) (w : World) (h : m < 1 ∨ n < m ∨ 1024 < n) :
    Calls Try.prog 54 #[.slice Ao no co, .int .i64 m, .slice An nn cn, .int .i64 n, .slice Ap k cp] w fun e w' => e = .returned (.bool false) ∧ Below w.heap.size w w' := by
  by_cases b1 : m < 1
  · clear h
    go_enter Try.func54, Try.ntmps54
    go_wp2
    go_ret
    exact ⟨rfl, by go_grown⟩
  by_cases b2 : n < m
  · have b2i : m > n := b2
    clear h
    go_enter Try.func54, Try.ntmps54
    go_wp2
    go_ret
    exact ⟨rfl, by go_grown⟩
  have b2i : ¬ m > n := b2
  have b3 : n > 1024 := by omega
  clear h
  go_enter Try.func54, Try.ntmps54
  go_wp2
  go_ret
  exact ⟨rfl, by go_grown⟩
set_option maxRecDepth 100000 in
set_option maxHeartbeats 4000000 in
theorem refGrow_any (old now : List UInt8) (m n : Nat) (p : List (List UInt8)) (Ao : Option Addr) (no co : Nat) (An : Option Addr) (nn cn : Nat) (Ap : Option Addr) (k cp : Nat) (w : World) (ho : Bytes w Ao no co old) (hw : Bytes w An nn cn now) (hp : Lists w Ap k cp p) (hno : no ≤ 100000) (hf : few p) (hm1 : 1 ≤ m) (hmn : m ≤ n) (hn : n ≤ 1024) :
    Calls Try.prog 55 #[.slice Ao no co, .int .i64 m, .slice An nn cn, .int .i64 n, .slice Ap k cp] w fun e w' => e = .returned (.bool (growB old m now n p)) ∧ Below w.heap.size w w' := by
  have OB := Lib.hid ho
  have NB := Lib.hid hw
  have PB := Lib.hid hp
  have HLp := Lib.hid hp.len
  have pl1 := hp.le
  have pl2 := hp.cap
  have HF := Lib.hid hf
  have b1 : ¬ (m : Int) < 1 := by omega
  have b2 : ¬ (m : Int) > (n : Int) := by omega
  have b3 : ¬ (n : Int) > 1024 := by omega
  clear ho hw hp hf
  go_enter Try.func55, Try.ntmps55
  go_wp2_with fail
  refine (grown_any n m true old p _ _ _ _ _ _ _ OB.out PB.out (by omega) HF.out hm1 hmn hn).mono ?_
  rintro e w1 ⟨⟨a, b, A1, ma, ca, A2, mb, cb, hr, rfl, hd, ha, la, hb, lb⟩ | ⟨hr, rfl⟩, hbe⟩
  · have VA := Lib.hid ha
    have VB := Lib.hid hb
    have RR := Lib.hid hbe
    have OB := Lib.hid (OB.out.stays hbe)
    have NB := Lib.hid (NB.out.stays hbe)
    have HG := Lib.hid (growB_some (now := now) hr)
    rw [List.length_drop, HLp.out] at HG
    generalize depthG m n true = u at *
    clear ha hb hbe hr
    by_cases hk3 : u = k
    · have HGn : Hid (growB old m now n p = (decide (a = old) && decide (b = now))) := by have := HG.out; rw [hk3] at this; simpa [Hid] using this
      clear HG
      subst hk3
      have HG := HGn
      by_cases hea : a = old
      · have HA := Lib.hid hea
        by_cases heb : b = now
        · have HBn := Lib.hid heb
          clear hea heb
          go_wp2_with fail
          refine (refSame_any _ _ _ a _ _ _ old _ VA.out OB.out).mono ?_
          rintro e wz ⟨rfl, rfl⟩
          rw [decide_eq_true HA.out]
          go_wp2_with fail
          refine (refSame_any _ _ _ b _ _ _ now _ VB.out NB.out).mono ?_
          rintro e wz ⟨rfl, rfl⟩
          rw [decide_eq_true HBn.out]
          go_wp2
          go_ret
          exact ⟨by rw [HG.out, decide_eq_true HA.out, decide_eq_true HBn.out]; rfl, RR.out⟩
        · have HBn := Lib.hid heb
          clear hea heb
          go_wp2_with fail
          refine (refSame_any _ _ _ a _ _ _ old _ VA.out OB.out).mono ?_
          rintro e wz ⟨rfl, rfl⟩
          rw [decide_eq_true HA.out]
          go_wp2_with fail
          refine (refSame_any _ _ _ b _ _ _ now _ VB.out NB.out).mono ?_
          rintro e wz ⟨rfl, rfl⟩
          rw [decide_eq_false HBn.out]
          go_wp2
          go_ret
          exact ⟨by rw [HG.out, decide_eq_true HA.out, decide_eq_false HBn.out]; rfl, RR.out⟩
      · have HA := Lib.hid hea
        clear hea
        go_wp2_with fail
        refine (refSame_any _ _ _ a _ _ _ old _ VA.out OB.out).mono ?_
        rintro e wz ⟨rfl, rfl⟩
        rw [decide_eq_false HA.out]
        go_wp2
        go_ret
        exact ⟨by rw [HG.out, decide_eq_false HA.out]; rfl, RR.out⟩
    · have hkb : ((u : Int) == (k : Int)) = false := by simp; omega
      have hud : decide (u = k) = false := by simp; omega
      have HG : Hid (growB old m now n p = false) := by have := HG.out; rw [decide_eq_false (show ¬ k - u = 0 by omega)] at this; simpa [Hid] using this
      go_wp2
      go_ret
      exact ⟨by rw [HG.out]; rfl, RR.out⟩
  · have HG := Lib.hid (growB_none (now := now) hr)
    have RR := Lib.hid hbe
    clear hr hbe
    go_wp2
    go_ret
    exact ⟨by rw [HG.out]; rfl, RR.out⟩
set_option maxRecDepth 100000 in
set_option maxHeartbeats 4000000 in
theorem refGrow_bad (m n : Int) (Ao : Option Addr) (no co : Nat) (An : Option Addr) (nn cn : Nat) (Ap : Option Addr) (k cp : Nat) (w : World) (h : m < 1 ∨ n < m ∨ 1024 < n) :
    Calls Try.prog 55 #[.slice Ao no co, .int .i64 m, .slice An nn cn, .int .i64 n, .slice Ap k cp] w fun e w' => e = .returned (.bool false) ∧ Below w.heap.size w w' := by
  by_cases b1 : m < 1
  · clear h
    go_enter Try.func55, Try.ntmps55
    go_wp2
    go_ret
    exact ⟨rfl, by go_grown⟩
  by_cases b2 : n < m
  · have b2i : m > n := b2
    clear h
    go_enter Try.func55, Try.ntmps55
    go_wp2
    go_ret
    exact ⟨rfl, by go_grown⟩
  have b2i : ¬ m > n := b2
  have b3 : n > 1024 := by omega
  clear h
  go_enter Try.func55, Try.ntmps55
  go_wp2
  go_ret
  exact ⟨rfl, by go_grown⟩
end Go.Proofs.Ytahphlcahaheiaa
