/- OctetsReadBack: the walk. -/
import Derived.Test.YtofadjcphaehcaaFieldsR
import Derived.Test.YtofadjcphaehcaaSameF
import Derived.Test.YtofadjcphaehcaaOctK
namespace Go.Proofs.Ytofadjcphaehcaa
open Go.RowKit

/-- The field has its form. -/
def okF (f : Int × List UInt8) : Prop := 0 ≤ f.1 ∧ f.1 ≤ 65535 ∧ f.2.length ≤ 65535
theorem flat_le : ∀ fs : List (Int × List UInt8), (∀ f ∈ fs, f.2.length ≤ 100) → (fs.flatMap encF).length ≤ 104 * fs.length
  | [], _ => by simp
  | f :: fs, h => by
    have h1 := h f (by simp)
    have := flat_le fs (fun g hg => h g (by simp [hg]))
    rw [List.flatMap_cons, List.length_append, List.length_cons]
    simp only [encF, List.length_append, putL_length]; omega
theorem fld_mem {fs : List (Int × List UInt8)} {f : Int × List UInt8} (h : f ∈ fs) : ∃ i, i < fs.length ∧ f = (fldT fs i, fldD fs i) := by
  obtain ⟨i, hi, rfl⟩ := List.mem_iff_getElem.1 h
  exact ⟨i, hi, by simp [fldT, fldD, List.getD, hi]⟩
set_option maxRecDepth 100000 in
set_option maxHeartbeats 4000000 in
theorem octetsReadBack_walk (A0 : Option Addr) (n0 c0 : Nat) (fs : List (Int × List UInt8)) (A1 : Option Addr) (n1 c1 : Nat) (b : List UInt8) (w : World) (h0 : FldL w A0 n0 c0 fs) (h1 : Bytes w A1 n1 c1 b) :
    Calls Try.prog 10 #[.slice A0 n0 c0, .slice A1 n1 c1] w fun e w' => e = .returned (.bool true) ∧ Below w.heap.size w w' := by
  have q1 := h0.le
  have q2 := h0.cap
  have q3 := h1.le
  have q4 := h1.cap
  by_cases hn : 10 < n0
  · have hni : (n0 : Int) > 10 := by omega
    clear h0 h1
    go_enter Try.func10, Try.ntmps10
    go_wp2_with fail
    refine (octKnown _).mono ?_
    rintro e wk ⟨rfl, hb⟩
    go_wp2
    go_ret
    exact ⟨rfl, hb⟩
  have hni : ¬ (n0 : Int) > 10 := by omega
  by_cases hm : 300 < n1
  · have hmi : (n1 : Int) > 300 := by omega
    clear h0 h1
    go_enter Try.func10, Try.ntmps10
    go_wp2_with fail
    refine (octKnown _).mono ?_
    rintro e wk ⟨rfl, hb⟩
    go_wp2
    go_ret
    exact ⟨rfl, hb⟩
  have hmi : ¬ (n1 : Int) > 300 := by omega
  have FF := Lib.hid h0
  have BB := Lib.hid h1
  have LF := Lib.hid h0.len
  have LB := Lib.hid h1.len
  clear h0 h1
  go_enter Try.func10, Try.ntmps10
  go_wp2
  go_loop [5] (fun i => ∃ k : Nat, k ≤ n0 ∧ i = .int .i64 k ∧ Hid (∀ i, i < k → 0 ≤ fldT fs i ∧ fldT fs i ≤ 65535 ∧ (fldD fs i).length ≤ 100)) (fun i => n0 - (intOf i).toNat)
  case atStart => exact ⟨0, Nat.zero_le _, rfl, fun i h => by omega⟩
  case round =>
    obtain ⟨k, hk, rfl, HK⟩ := hrel
    by_cases hkn : k < n0
    · have hki : (k : Int) < (n0 : Int) := by omega
      obtain ⟨bb, off, A', n', c', rfl, hc0, hc1, hy⟩ := FF.out.at_ hkn
      have HYL := Lib.hid hy.len
      have hyl := hy.le
      have hyc := hy.cap
      clear hy
      have HNX : Hid (0 ≤ fldT fs k → fldT fs k ≤ 65535 → n' ≤ 100 → ∀ i, i < k + 1 → 0 ≤ fldT fs i ∧ fldT fs i ≤ 65535 ∧ (fldD fs i).length ≤ 100) := by
        intro h1 h2 h3 i hi
        by_cases e : i = k
        · subst e; exact ⟨h1, h2, by rw [HYL.out]; exact h3⟩
        · exact HK.out i (by omega)
      generalize fldT fs k = t at *
      by_cases ha : 100 < n'
      · have ha1 : (n' : Int) > 100 := by omega
        go_wp2_with fail
        refine (octKnown _).mono ?_
        rintro e wk ⟨rfl, hb⟩
        go_wp2
        go_ret
        exact ⟨rfl, hb⟩
      have ha1 : ¬ (n' : Int) > 100 := by omega
      by_cases hb : t < 0
      · go_wp2_with fail
        refine (octKnown _).mono ?_
        rintro e wk ⟨rfl, hb⟩
        go_wp2
        go_ret
        exact ⟨rfl, hb⟩
      by_cases hb : 65535 < t
      · have hb1 : t > 65535 := hb
        go_wp2_with fail
        refine (octKnown _).mono ?_
        rintro e wk ⟨rfl, hb⟩
        go_wp2
        go_ret
        exact ⟨rfl, hb⟩
      have hb1 : ¬ t > 65535 := hb
      have HN2 := Lib.hid (HNX.out (by omega) (by omega) (by omega))
      clear HK HNX
      go_wp2
      go_round
      case rel => exact ⟨k + 1, by omega, by go_num, HN2⟩
      case measure => simp [intOf]; omega
    · obtain rfl : k = n0 := by omega
      have hok : ∀ f ∈ fs, 0 ≤ f.1 ∧ f.1 ≤ 65535 ∧ f.2.length ≤ 100 := fun f hf => by
        obtain ⟨i, hi, rfl⟩ := fld_mem hf
        exact HK.out i (by rw [← LF.out]; exact hi)
      have hfl := flat_le fs (fun f hf => (hok f hf).2.2)
      have hw : Hid (writeL fs [] = (fs.flatMap encF, 0)) := by
        unfold Hid
        rw [writeL_ok fs [] (fun f hf => ⟨(hok f hf).1, (hok f hf).2.1, by have := (hok f hf).2.2; omega⟩) (by rw [List.length_nil]; have := LF.out; omega), List.nil_append]
      have hr : Hid (∀ m, (fs.flatMap encF).length ≤ m → fldF m (fs.flatMap encF) = some fs) := fun m hm => fldF_write fs m (fun f hf => ⟨(hok f hf).1, (hok f hf).2.1, by have := (hok f hf).2.2; omega⟩) hm
      have hl : Hid ((fs.flatMap encF).length ≤ 1040) := by unfold Hid; have := LF.out; omega
      clear hok hfl HK
      generalize fs.flatMap encF = X at *
      cases hF : fldF n1 b with
      | some gs =>
        have HF := Lib.hid hF
        obtain ⟨g1, g2, g3⟩ := fldF_back n1 b gs (by rw [LB.out]; exact Nat.le_refl _) hF
        have HW2 : Hid (writeL gs [] = (b, 0)) := by
          unfold Hid
          rw [writeL_ok gs [] g3 (by rw [g1, LB.out, List.length_nil]; omega), g1, List.nil_append]
        clear hF g1 g2 g3
        go_wp2_with fail
        refine (write_any _ _ _ _ _ FF.out).mono ?_
        rintro e w1 ⟨A2, n2, c2, rfl, hv, hb⟩
        have hbx : Below w.heap.size w w1 := below_via (by go_grown) hb (by first | (simp; done) | (simp; omega))
        have BB := Lib.hid (BB.out.stays hbx)
        have FF := Lib.hid (FF.out.stays hbx)
        have X1 := Lib.hid hv
        have R1 := Lib.hid hbx
        have hs1 := R1.out.size
        clear hb hbx hv
        rw [hw.out] at X1 ⊢
        have hn2 : n2 ≤ 1040 := by rw [← X1.out.len]; exact hl.out
        go_wp2_with fail
        refine (fields_ok _ _ _ _ _ _ X1.out (by omega) (hr.out _ (by rw [X1.out.len]; exact Nat.le_refl _))).mono ?_
        rintro e w2 ⟨A3, m3, c3, rfl, hv, hb⟩
        have hbx : Below w1.heap.size w1 w2 := below_via (by go_grown) hb (by first | (simp; done) | (simp; omega))
        have BB := Lib.hid (BB.out.stays hbx)
        have FF := Lib.hid (FF.out.stays hbx)
        have X1 := Lib.hid (X1.out.stays hbx)
        have Y1 := Lib.hid hv
        have R2 := Lib.hid (R1.out.trans (hbx.mono hs1))
        have hs2 := R2.out.size
        clear hb hbx hv
        clear R1
        go_wp2_with fail
        refine (fields_ok _ _ _ _ _ _ BB.out (by omega) HF.out).mono ?_
        rintro e w3 ⟨A4, m4, c4, rfl, hv, hb⟩
        have hbx : Below w2.heap.size w2 w3 := below_via (by go_grown) hb (by first | (simp; done) | (simp; omega))
        have BB := Lib.hid (BB.out.stays hbx)
        have FF := Lib.hid (FF.out.stays hbx)
        have X1 := Lib.hid (X1.out.stays hbx)
        have Y1 := Lib.hid (Y1.out.stays hbx)
        have Y2 := Lib.hid hv
        have R3 := Lib.hid (R2.out.trans (hbx.mono hs2))
        have hs3 := R3.out.size
        clear hb hbx hv
        clear R2
        go_wp2_with fail
        refine (sameFields_true FF.out Y1.out rfl).mono ?_
        rintro e w4 ⟨rfl, hb⟩
        have hbx : Below w3.heap.size w3 w4 := below_via (by go_grown) hb (by first | (simp; done) | (simp; omega))
        have BB := Lib.hid (BB.out.stays hbx)
        have FF := Lib.hid (FF.out.stays hbx)
        have X1 := Lib.hid (X1.out.stays hbx)
        have Y1 := Lib.hid (Y1.out.stays hbx)
        have Y2 := Lib.hid (Y2.out.stays hbx)
        have R4 := Lib.hid (R3.out.trans (hbx.mono hs3))
        have hs4 := R4.out.size
        clear hb hbx 
        clear R3
        go_wp2_with fail
        refine (write_any _ _ _ _ _ Y2.out).mono ?_
        rintro e w5 ⟨A5, n5, c5, rfl, hv, hb⟩
        have hbx : Below w4.heap.size w4 w5 := below_via (by go_grown) hb (by first | (simp; done) | (simp; omega))
        have BB := Lib.hid (BB.out.stays hbx)
        have FF := Lib.hid (FF.out.stays hbx)
        have X1 := Lib.hid (X1.out.stays hbx)
        have Y1 := Lib.hid (Y1.out.stays hbx)
        have Y2 := Lib.hid (Y2.out.stays hbx)
        have X2 := Lib.hid hv
        have R5 := Lib.hid (R4.out.trans (hbx.mono hs4))
        have hs5 := R5.out.size
        clear hb hbx hv
        clear R4
        rw [HW2.out] at X2 ⊢
        go_wp2_with fail
        refine (octKnown _).mono ?_
        rintro e w6 ⟨rfl, hb⟩
        have hbx : Below w5.heap.size w5 w6 := below_via (by go_grown) hb (by first | (simp; done) | (simp; omega))
        have BB := Lib.hid (BB.out.stays hbx)
        have FF := Lib.hid (FF.out.stays hbx)
        have X1 := Lib.hid (X1.out.stays hbx)
        have Y1 := Lib.hid (Y1.out.stays hbx)
        have Y2 := Lib.hid (Y2.out.stays hbx)
        have X2 := Lib.hid (X2.out.stays hbx)
        have R6 := Lib.hid (R5.out.trans (hbx.mono hs5))
        have hs6 := R6.out.size
        clear hb hbx 
        clear R5
        go_wp2_with fail
        refine (refSame_true X2.out BB.out rfl).mono ?_
        rintro e w7 ⟨rfl, rfl⟩
        go_wp2
        go_ret
        exact ⟨rfl, R6.out⟩
      | none =>
        have HF := Lib.hid hF
        clear hF
        go_wp2_with fail
        refine (write_any _ _ _ _ _ FF.out).mono ?_
        rintro e w1 ⟨A2, n2, c2, rfl, hv, hb⟩
        have hbx : Below w.heap.size w w1 := below_via (by go_grown) hb (by first | (simp; done) | (simp; omega))
        have BB := Lib.hid (BB.out.stays hbx)
        have FF := Lib.hid (FF.out.stays hbx)
        have X1 := Lib.hid hv
        have R1 := Lib.hid hbx
        have hs1 := R1.out.size
        clear hb hbx hv
        rw [hw.out] at X1 ⊢
        have hn2 : n2 ≤ 1040 := by rw [← X1.out.len]; exact hl.out
        go_wp2_with fail
        refine (fields_ok _ _ _ _ _ _ X1.out (by omega) (hr.out _ (by rw [X1.out.len]; exact Nat.le_refl _))).mono ?_
        rintro e w2 ⟨A3, m3, c3, rfl, hv, hb⟩
        have hbx : Below w1.heap.size w1 w2 := below_via (by go_grown) hb (by first | (simp; done) | (simp; omega))
        have BB := Lib.hid (BB.out.stays hbx)
        have FF := Lib.hid (FF.out.stays hbx)
        have X1 := Lib.hid (X1.out.stays hbx)
        have Y1 := Lib.hid hv
        have R2 := Lib.hid (R1.out.trans (hbx.mono hs1))
        have hs2 := R2.out.size
        clear hb hbx hv
        clear R1
        go_wp2_with fail
        refine (fields_bad _ _ _ _ _ BB.out (by omega) HF.out).mono ?_
        rintro e w3 ⟨rfl, hb⟩
        have hbx : Below w2.heap.size w2 w3 := below_via (by go_grown) hb (by first | (simp; done) | (simp; omega))
        have BB := Lib.hid (BB.out.stays hbx)
        have FF := Lib.hid (FF.out.stays hbx)
        have X1 := Lib.hid (X1.out.stays hbx)
        have Y1 := Lib.hid (Y1.out.stays hbx)
        have R3 := Lib.hid (R2.out.trans (hbx.mono hs2))
        have hs3 := R3.out.size
        clear hb hbx 
        clear R2
        go_wp2_with fail
        refine (sameFields_true FF.out Y1.out rfl).mono ?_
        rintro e w4 ⟨rfl, hb⟩
        have hbx : Below w3.heap.size w3 w4 := below_via (by go_grown) hb (by first | (simp; done) | (simp; omega))
        have BB := Lib.hid (BB.out.stays hbx)
        have FF := Lib.hid (FF.out.stays hbx)
        have X1 := Lib.hid (X1.out.stays hbx)
        have Y1 := Lib.hid (Y1.out.stays hbx)
        have R4 := Lib.hid (R3.out.trans (hbx.mono hs3))
        have hs4 := R4.out.size
        clear hb hbx 
        clear R3
        go_wp2_with fail
        refine (octKnown _).mono ?_
        rintro e w5 ⟨rfl, hb⟩
        have hbx : Below w4.heap.size w4 w5 := below_via (by go_grown) hb (by first | (simp; done) | (simp; omega))
        have BB := Lib.hid (BB.out.stays hbx)
        have FF := Lib.hid (FF.out.stays hbx)
        have X1 := Lib.hid (X1.out.stays hbx)
        have Y1 := Lib.hid (Y1.out.stays hbx)
        have R5 := Lib.hid (R4.out.trans (hbx.mono hs4))
        have hs5 := R5.out.size
        clear hb hbx 
        clear R4
        go_wp2
        go_ret
        exact ⟨rfl, R5.out⟩
end Go.Proofs.Ytofadjcphaehcaa
