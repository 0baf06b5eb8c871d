/- Trees: proofs of growth. -/
import Derived.Test.YtahphlcahaheiaaTreeD
namespace Go.Proofs.Ytahphlcahaheiaa
open Go.RowKit

set_option maxRecDepth 100000 in
set_option maxHeartbeats 4000000 in
theorem proof_any (n : Nat) : ∀ (ls : List (List UInt8)) (m : Nat) (b : Bool) (A : Option Addr) (c : Nat) (w : World), Lists w A n c ls → 1 ≤ m → m ≤ n → n ≤ 1024 → all32 ls →
    Calls Try.prog 78 #[.slice A n c, .int .i64 m, .bool b] w fun e w' => ∃ A' m' c', e = .returned (.slice A' m' c') ∧ OwnItems 1 encB id 22 w' w.heap.size A' m' c' (proofL ls m b) ∧ m' ≤ n ∧ Below w.heap.size w w' := by
  obtain ⟨i0, hi, hz0, hz1, hz2⟩ := info_parts infoHash
  induction n using Nat.strongRecOn with
  | ind n ih =>
  intro ls m b A c w h hm1 hmn hn hall
  have IH := Lib.hid ih
  have HA := Lib.hid hall
  have HB := Lib.hid h
  have HLn := Lib.hid h.len
  have hcl := h.le
  have hcc := h.cap
  clear ih hall h
  by_cases h1 : m = n
  · subst h1
    cases b with
    | true =>
      have HR : Hid (proofL ls m true = []) := by unfold Hid; rw [proofL, if_pos (.inr HLn.out.symm)]; rfl
      go_enter Try.func78, Try.ntmps78
      go_wp2
      go_ret
      exact ⟨none, 0, 0, rfl, by rw [HR.out]; exact OwnItems.nil _ _, by omega, by go_grown⟩
    | false =>
      have HR : Hid (proofL ls m false = [rootL ls]) := by unfold Hid; rw [proofL, if_pos (.inr HLn.out.symm)]; rfl
      go_enter Try.func78, Try.ntmps78
      go_wp2_with fail
      refine (root_any _ _ _ _ _ HB.out (by omega) HA.out).mono ?_
      rintro e w3 ⟨A3, c3, rfl, hv, hf, hb⟩
      have VR := Lib.hid hv
      have hs := hb.size
      clear hv hf
      go_wp2
      go_ret
      exact ⟨_, 1, 1, rfl, by rw [HR.out]; exact (OwnItems.one VR.out).more hs, by omega, by go_grown⟩
  · have h2 : 2 ≤ n := by omega
    have hb1 : ((m : Int) == (n : Int)) = false := by simp; omega
    have hb2 : decide (m = n) = false := by simp; omega
    have HNE := Lib.hid h1
    clear h1
    have HRl : Hid (m ≤ halfN n → proofL ls m b = proofL (ls.take (halfN n)) m b ++ [rootL (ls.drop (halfN n))]) := fun hlt => by
      rw [proofL, HLn.out, if_neg (by have := HNE.out; omega), if_pos hlt]
    have HRr : Hid (¬ m ≤ halfN n → proofL ls m b = proofL (ls.drop (halfN n)) (m - halfN n) false ++ [rootL (ls.take (halfN n))]) := fun hlt => by
      rw [proofL, HLn.out, if_neg (by have := HNE.out; omega), if_neg hlt]
    have hk1 := half_lt h2
    have hk0 := half_pos n
    go_enter Try.func78, Try.ntmps78
    go_wp2_with fail
    refine (divide_any _ _ _ _ h2 hn hcl hcc).mono ?_
    rintro e w1 ⟨rfl, hb⟩
    generalize halfN n = k at *
    have TL := Lib.hid ((HB.out.cutTo k (by omega)).stays hb)
    have TR := Lib.hid ((HB.out.cutFrom k (by omega) (d := n - k) (k := c - k) rfl rfl).stays hb)
    have R1 := Lib.hid hb
    have hs1 := hb.size
    clear hb HB
    by_cases hik : m ≤ k
    · have hiki : (m : Int) ≤ (k : Int) := by omega
      have HE := Lib.hid (HRl.out hik)
      go_wp2_with fail
      refine (IH.out k hk1 _ m b _ _ _ TL.out hm1 hik (by omega) (HA.out.take k)).mono ?_
      rintro e w2 ⟨A2, m2, c2, rfl, hv, hm2, hb⟩
      have HP := Lib.hid hv
      have RF := Lib.hid (TR.out.stays hb)
      have R2 := Lib.hid (R1.out.trans (hb.mono hs1))
      have hs2 := R2.out.size
      have hs12 := hb.size
      clear hv hb TL TR
      go_wp2_with fail
      refine (root_any _ _ _ _ _ RF.out (by omega) (HA.out.drop k)).mono ?_
      rintro e w3 ⟨A3, c3, rfl, hv, hf, hb⟩
      have VR := Lib.hid hv
      have HO := Lib.hid (Off.fresh (n := 32) (bad := (Value.slice A2 m2 c2).ownBlock) hf HP.out.lt)
      have HP := Lib.hid (HP.out.stays hb)
      have R3 := Lib.hid (R2.out.trans (hb.mono hs2))
      have hs3 := R3.out.size
      have hs23 := hb.size
      clear hv hf hb RF
      go_wp2_with (at_builtin; refine wpList_append_items rfl _ _ 33 rfl i0 _ 24 Try.underlying33 hi hz0 hz1 hz2 rfl (by decide) rfl (HP.out.stays ((Below.refl _ _).alloc (Nat.le_refl _) _)) rfl (rootL (ls.drop k)) rfl (rd_one _ _ _) (by simp [encB, Value.oneCell']) (VR.out.stays ((Below.refl _ _).alloc (Nat.le_refl _) _)) HO.out ?c1 ?c2 ?c3 ?_)
      case c1 => unfold maxLen; omega
      case c2 => omega
      case c3 => simp; omega
      intro A8 c8 w8 hown8 hg8 hb8
      have H8 := Lib.hid hown8
      have hB8 : Below w.heap.size w w8 := (R3.out.alloc hs3 _).trans ((hb8.mono hs1))
      clear hown8 hg8 hb8
      go_wp2
      go_ret
      exact ⟨A8, m2 + 1, c8, rfl, by rw [HE.out]; exact H8.out.more hs1, by omega, hB8⟩
    · have hiki : ¬ (m : Int) ≤ (k : Int) := by omega
      have HE := Lib.hid (HRr.out hik)
      obtain ⟨j, hj0⟩ : ∃ j, m - k = j := ⟨_, rfl⟩
      rw [hj0] at HE
      have hj : (m : Int) - (k : Int) = (j : Int) := by omega
      have hj1 : j ≤ n - k := by omega
      have hj2 : j + k = m := by omega
      clear hj0
      go_wp2_with fail
      refine (IH.out (n - k) (by omega) _ j false _ _ _ TR.out (by omega) (by omega) (by omega) (HA.out.drop k)).mono ?_
      rintro e w2 ⟨A2, m2, c2, rfl, hv, hm2, hb⟩
      have HP := Lib.hid hv
      have RF := Lib.hid (TL.out.stays hb)
      have R2 := Lib.hid (R1.out.trans (hb.mono hs1))
      have hs2 := R2.out.size
      have hs12 := hb.size
      clear hv hb TL TR
      go_wp2_with fail
      refine (root_any _ _ _ _ _ RF.out (by omega) (HA.out.take k)).mono ?_
      rintro e w3 ⟨A3, c3, rfl, hv, hf, hb⟩
      have VR := Lib.hid hv
      have HO := Lib.hid (Off.fresh (n := 32) (bad := (Value.slice A2 m2 c2).ownBlock) hf HP.out.lt)
      have HP := Lib.hid (HP.out.stays hb)
      have R3 := Lib.hid (R2.out.trans (hb.mono hs2))
      have hs3 := R3.out.size
      have hs23 := hb.size
      clear hv hf hb RF
      go_wp2_with (at_builtin; refine wpList_append_items rfl _ _ 33 rfl i0 _ 24 Try.underlying33 hi hz0 hz1 hz2 rfl (by decide) rfl (HP.out.stays ((Below.refl _ _).alloc (Nat.le_refl _) _)) rfl (rootL (ls.take k)) rfl (rd_one _ _ _) (by simp [encB, Value.oneCell']) (VR.out.stays ((Below.refl _ _).alloc (Nat.le_refl _) _)) HO.out ?c1 ?c2 ?c3 ?_)
      case c1 => unfold maxLen; omega
      case c2 => omega
      case c3 => simp; omega
      intro A8 c8 w8 hown8 hg8 hb8
      have H8 := Lib.hid hown8
      have hB8 : Below w.heap.size w w8 := (R3.out.alloc hs3 _).trans ((hb8.mono hs1))
      clear hown8 hg8 hb8
      go_wp2
      go_ret
      exact ⟨A8, m2 + 1, c8, rfl, by rw [HE.out]; exact H8.out.more hs1, by omega, hB8⟩
end Go.Proofs.Ytahphlcahaheiaa
