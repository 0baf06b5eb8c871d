/- sectimeref01.SameFields. -/
import Derived.Test.YtofadjcphaehcaaFld
import Derived.Test.YtofadjcphaehcaaSame
import Derived.Test.YtofadjcphaehcaaReg
namespace Go.Proofs.Ytofadjcphaehcaa
open Go.RowKit

theorem refSame_trueD {A : Option Addr} {n c : Nat} {l : List UInt8} {A2 : Option Addr} {n2 c2 : Nat} {l2 : List UInt8} {w : World} (h1 : Bytes w A n c l) (h2 : Bytes w A2 n2 c2 l2) (e0 : l = l2) :
    Calls Try.prog 18 #[.slice A n c, .slice A2 n2 c2] w.drew fun e w' => e = .returned (.bool true) ∧ w' = w.drew :=
  (refSame_true (h1.stays ((Below.refl _ _).drew)) (h2.stays ((Below.refl _ _).drew)) e0).mono fun _ _ h => ⟨h.1, h.2.symm⟩
theorem refSame_falseD {A : Option Addr} {n c : Nat} {l : List UInt8} {A2 : Option Addr} {n2 c2 : Nat} {l2 : List UInt8} {w : World} (h1 : Bytes w A n c l) (h2 : Bytes w A2 n2 c2 l2) (e0 : ¬ l = l2) :
    Calls Try.prog 18 #[.slice A n c, .slice A2 n2 c2] w.drew fun e w' => e = .returned (.bool false) ∧ w' = w.drew :=
  (refSame_false (h1.stays ((Below.refl _ _).drew)) (h2.stays ((Below.refl _ _).drew)) e0).mono fun _ _ h => ⟨h.1, h.2.symm⟩
theorem fld_take (fs gs : List (Int × List UInt8)) (k : Nat) (h1 : k < fs.length) (h2 : k < gs.length) (h : fs.take k = gs.take k) (ht : fldT fs k = fldT gs k) (hd : fldD fs k = fldD gs k) : fs.take (k + 1) = gs.take (k + 1) := by
  rw [List.take_succ_eq_append_getElem h1, List.take_succ_eq_append_getElem h2, h]
  congr 2
  have e1 : fldT fs k = (fs[k]).1 := by simp [fldT, h1, List.getD]
  have e2 : fldT gs k = (gs[k]).1 := by simp [fldT, h2, List.getD]
  have e3 : fldD fs k = (fs[k]).2 := by simp [fldD, h1, List.getD]
  have e4 : fldD gs k = (gs[k]).2 := by simp [fldD, h2, List.getD]
  exact Prod.ext (by rw [← e1, ← e2, ht]) (by rw [← e3, ← e4, hd])
set_option maxRecDepth 100000 in
set_option maxHeartbeats 4000000 in
theorem sameFields_any (A : Option Addr) (n c : Nat) (fs : List (Int × List UInt8)) (A2 : Option Addr) (n2 c2 : Nat) (gs : List (Int × List UInt8)) (w : World) (h1 : FldL w A n c fs) (h2 : FldL w A2 n2 c2 gs) :
    Calls Try.prog 31 #[.slice A n c, .slice A2 n2 c2] w fun e w' => e = .returned (.bool (decide (fs = gs))) ∧ Below w.heap.size w w' := by
  have q1 := h1.le
  have q2 := h1.cap
  have q3 := h2.le
  have q4 := h2.cap
  have L1 := Lib.hid h1.len
  have L2 := Lib.hid h2.len
  have F1 := Lib.hid h1
  have F2 := Lib.hid h2
  clear h1 h2
  by_cases hn : n = n2
  · subst hn
    go_enter Try.func31, Try.ntmps31
    go_wp2
    go_loopw [5] (fun i wr => ∃ k : Nat, k ≤ n ∧ i = .int .i64 k ∧ Hid (fs.take k = gs.take k) ∧ Below w.heap.size w wr) (fun i _ => n - (intOf i).toNat)
    case atStart => exact ⟨0, Nat.zero_le _, rfl, rfl, Below.refl _ _⟩
    case round =>
      obtain ⟨k, hk, rfl, HT, hbr⟩ := hrel
      by_cases hkn : k < n
      · have hki : (k : Int) < (n : Int) := by omega
        obtain ⟨b, off, A', n', c', rfl, hc0, hc1, hy⟩ := (F1.out.stays hbr).at_ hkn
        obtain ⟨b2, off2, A2', n2', c2', rfl, hc02, hc12, hy2⟩ := (F2.out.stays hbr).at_ hkn
        have HY := Lib.hid hy
        have HY2 := Lib.hid hy2
        clear hy hy2
        have HS := Lib.hid (fld_take fs gs k (by rw [L1.out]; exact hkn) (by rw [L2.out]; exact hkn) HT.out)
        have HNT : Hid (fldT fs k ≠ fldT gs k → fs ≠ gs) := fun h e => h (by rw [e])
        have HND : Hid (fldD fs k ≠ fldD gs k → fs ≠ gs) := fun h e => h (by rw [e])
        generalize fldT fs k = x at *
        generalize fldT gs k = y at *
        generalize fldD fs k = d1 at *
        generalize fldD gs k = d2 at *
        by_cases hxy : x = y
        · subst hxy
          by_cases hd : d1 = d2
          · have HD := Lib.hid hd
            clear hd
            go_wp2_with fail
            refine region_still (by kernel_rfl) (by kernel_rfl) ?_
            repeat ((with_reducible refine wpStill_step (fun K hK => ?_)); go_simp; (with_reducible refine hK _ ?_); clear hK K)
            with_reducible refine wpStill_step (fun K hK => ?_)
            go_simp
            with_reducible refine ⟨_, refSame_trueD HY.out HY2.out HD.out, hK _ ?_⟩
            clear hK K
            repeat ((with_reducible refine wpStill_step (fun K hK => ?_)); go_simp; (with_reducible refine hK _ ?_); clear hK K)
            refine wpStill_nil ?_
            go_wp2
            go_roundw
            case rel => exact ⟨k + 1, by omega, by go_num, HS.out (by first | rfl | trivial) HD.out, hbr.drew⟩
            case measure => simp [intOf]; omega
          · have HD := Lib.hid hd
            clear hd
            go_wp2_with fail
            refine region_still (by kernel_rfl) (by kernel_rfl) ?_
            repeat ((with_reducible refine wpStill_step (fun K hK => ?_)); go_simp; (with_reducible refine hK _ ?_); clear hK K)
            with_reducible refine wpStill_step (fun K hK => ?_)
            go_simp
            with_reducible refine ⟨_, refSame_falseD HY.out HY2.out HD.out, hK _ ?_⟩
            clear hK K
            repeat ((with_reducible refine wpStill_step (fun K hK => ?_)); go_simp; (with_reducible refine hK _ ?_); clear hK K)
            refine wpStill_nil ?_
            go_wp2
            go_ret
            exact ⟨by rw [decide_eq_false (HND.out HD.out)]; rfl, hbr.drew⟩
        · have hb : (x == y) = false := by simpa using hxy
          have hb2 : (x != y) = true := by simp [bne, hb]
          have HX := Lib.hid hxy
          clear hxy
          go_wp2_with fail
          refine region_still (by kernel_rfl) (by kernel_rfl) ?_
          repeat ((with_reducible refine wpStill_step (fun K hK => ?_)); go_simp; (with_reducible refine hK _ ?_); clear hK K)
          refine wpStill_nil ?_
          go_wp2
          go_ret
          exact ⟨by rw [decide_eq_false (HNT.out HX.out)]; rfl, hbr.drew⟩
      · obtain rfl : k = n := by omega
        have e := HT.out
        rw [List.take_of_length_le (by rw [L1.out]; exact Nat.le_refl _), List.take_of_length_le (by rw [L2.out]; exact Nat.le_refl _)] at e
        have E := Lib.hid e
        clear e
        go_wp2
        go_ret
        exact ⟨by rw [decide_eq_true E.out]; rfl, hbr⟩
  · have hni : ((n : Int) == (n2 : Int)) = false := by simp; omega
    have hni2 : ((n : Int) != (n2 : Int)) = true := by simp; omega
    have HN := Lib.hid hn
    clear hn
    go_enter Try.func31, Try.ntmps31
    go_wp2
    go_ret
    exact ⟨by rw [decide_eq_false (fun e => HN.out (by rw [← L1.out, ← L2.out, e]))]; rfl, Below.refl _ _⟩
theorem sameFields_true {A : Option Addr} {n c : Nat} {fs : List (Int × List UInt8)} {A2 : Option Addr} {n2 c2 : Nat} {gs : List (Int × List UInt8)} {w : World} (h1 : FldL w A n c fs) (h2 : FldL w A2 n2 c2 gs) (he : fs = gs) :
    Calls Try.prog 31 #[.slice A n c, .slice A2 n2 c2] w fun e w' => e = .returned (.bool true) ∧ Below w.heap.size w w' :=
  (sameFields_any A n c fs A2 n2 c2 gs w h1 h2).mono fun e w' h => by rw [decide_eq_true he] at h; exact h
theorem FldL.nil (w : World) : FldL w none 0 0 [] := ⟨[], Rd.nil _ _ _ (by decide) _, rfl, fun i f h => by simp at h⟩
end Go.Proofs.Ytofadjcphaehcaa
