/- Trees: paths. -/
import Derived.Test.YtahphlcahaheiaaTreeD
namespace Go.Proofs.Ytahphlcahaheiaa
open Go.RowKit

set_option maxRecDepth 100000 in
set_option maxHeartbeats 4000000 in
theorem path_any (n : Nat) : ∀ (ls : List (List UInt8)) (i : Nat) (A : Option Addr) (c : Nat) (w : World), Lists w A n c ls → i < n → n ≤ 1024 → all32 ls →
    Calls Try.prog 74 #[.slice A n c, .int .i64 i] w fun e w' => ∃ A' m' c', e = .returned (.slice A' m' c') ∧ OwnItems 1 encB id 22 w' w.heap.size A' m' c' (pathL ls i) ∧ m' ≤ n ∧ Below w.heap.size w w' := by
  obtain ⟨i0, hi, hz0, hz1, hz2⟩ := info_parts infoHash
  induction n using Nat.strongRecOn with
  | ind n ih =>
  intro ls i A c w h hin hn hall
  have IH := Lib.hid ih
  have HA := Lib.hid hall
  have HB := Lib.hid h
  have HLn := Lib.hid h.len
  have hcl := h.le
  have hcc := h.cap
  clear ih hall h
  by_cases h1 : n = 1
  · subst h1
    have HR : Hid (pathL ls i = []) := by unfold Hid; rw [pathL, if_pos (by rw [HLn.out]; omega)]
    go_enter Try.func74, Try.ntmps74
    go_wp2
    go_ret
    exact ⟨none, 0, 0, rfl, by rw [HR.out]; exact OwnItems.nil _ _, by omega, by go_grown⟩
  · have h2 : 2 ≤ n := by omega
    have hb1 : ((n : Int) == 1) = false := by simp; omega
    clear h1
    have HRl : Hid (i < halfN n → pathL ls i = pathL (ls.take (halfN n)) i ++ [rootL (ls.drop (halfN n))]) := fun hlt => by rw [pathL, HLn.out, if_neg (by omega), if_pos hlt]
    have HRr : Hid (¬ i < halfN n → pathL ls i = pathL (ls.drop (halfN n)) (i - halfN n) ++ [rootL (ls.take (halfN n))]) := fun hlt => by rw [pathL, HLn.out, if_neg (by omega), if_neg hlt]
    have hk1 := half_lt h2
    have hk0 := half_pos n
    go_enter Try.func74, Try.ntmps74
    go_wp2_with fail
    refine (divide_any _ _ _ _ h2 hn hcl hcc).mono ?_
    rintro e w1 ⟨rfl, hb⟩
    generalize halfN n = k at *
    have TL := Lib.hid ((HB.out.cutTo k (by omega)).stays hb)
    have TR := Lib.hid ((HB.out.cutFrom k (by omega) (d := n - k) (k := c - k) rfl rfl).stays hb)
    have R1 := Lib.hid hb
    have hs1 := hb.size
    clear hb HB
    by_cases hik : i < k
    · have hiki : (i : Int) < (k : Int) := by omega
      have HE := Lib.hid (HRl.out hik)
      go_wp2_with fail
      refine (IH.out k hk1 _ i _ _ _ TL.out hik (by omega) (HA.out.take k)).mono ?_
      rintro e w2 ⟨A2, m2, c2, rfl, hv, hm2, hb⟩
      have HP := Lib.hid hv
      have RF := Lib.hid (TR.out.stays hb)
      have R2 := Lib.hid (R1.out.trans (hb.mono hs1))
      have hs2 := R2.out.size
      have hs12 := hb.size
      clear hv hb TL TR
      go_wp2_with fail
      refine (root_any _ _ _ _ _ RF.out (by omega) (HA.out.drop k)).mono ?_
      rintro e w3 ⟨A3, c3, rfl, hv, hf, hb⟩
      have VR := Lib.hid hv
      have HO := Lib.hid (Off.fresh (n := 32) (bad := (Value.slice A2 m2 c2).ownBlock) hf HP.out.lt)
      have HP := Lib.hid (HP.out.stays hb)
      have R3 := Lib.hid (R2.out.trans (hb.mono hs2))
      have hs3 := R3.out.size
      have hs23 := hb.size
      clear hv hf hb RF
      go_wp2_with (at_builtin; refine wpList_append_items rfl _ _ 33 rfl i0 _ 24 Try.underlying33 hi hz0 hz1 hz2 rfl (by decide) rfl (HP.out.stays ((Below.refl _ _).alloc (Nat.le_refl _) _)) rfl (rootL (ls.drop k)) rfl (rd_one _ _ _) (by simp [encB, Value.oneCell']) (VR.out.stays ((Below.refl _ _).alloc (Nat.le_refl _) _)) HO.out ?c1 ?c2 ?c3 ?_)
      case c1 => unfold maxLen; omega
      case c2 => omega
      case c3 => simp; omega
      intro A8 c8 w8 hown8 hg8 hb8
      have H8 := Lib.hid hown8
      have hB8 : Below w.heap.size w w8 := (R3.out.alloc hs3 _).trans ((hb8.mono hs1))
      clear hown8 hg8 hb8
      go_wp2
      go_ret
      exact ⟨A8, m2 + 1, c8, rfl, by rw [HE.out]; exact H8.out.more hs1, by omega, hB8⟩
    · have hiki : ¬ (i : Int) < (k : Int) := by omega
      have HE := Lib.hid (HRr.out hik)
      obtain ⟨j, hj0⟩ : ∃ j, i - k = j := ⟨_, rfl⟩
      rw [hj0] at HE
      have hj : (i : Int) - (k : Int) = (j : Int) := by omega
      have hj1 : j ≤ n - k := by omega
      have hj2 : j + k = i := by omega
      clear hj0
      go_wp2_with fail
      refine (IH.out (n - k) (by omega) _ j _ _ _ TR.out (by omega) (by omega) (HA.out.drop k)).mono ?_
      rintro e w2 ⟨A2, m2, c2, rfl, hv, hm2, hb⟩
      have HP := Lib.hid hv
      have RF := Lib.hid (TL.out.stays hb)
      have R2 := Lib.hid (R1.out.trans (hb.mono hs1))
      have hs2 := R2.out.size
      have hs12 := hb.size
      clear hv hb TL TR
      go_wp2_with fail
      refine (root_any _ _ _ _ _ RF.out (by omega) (HA.out.take k)).mono ?_
      rintro e w3 ⟨A3, c3, rfl, hv, hf, hb⟩
      have VR := Lib.hid hv
      have HO := Lib.hid (Off.fresh (n := 32) (bad := (Value.slice A2 m2 c2).ownBlock) hf HP.out.lt)
      have HP := Lib.hid (HP.out.stays hb)
      have R3 := Lib.hid (R2.out.trans (hb.mono hs2))
      have hs3 := R3.out.size
      have hs23 := hb.size
      clear hv hf hb RF
      go_wp2_with (at_builtin; refine wpList_append_items rfl _ _ 33 rfl i0 _ 24 Try.underlying33 hi hz0 hz1 hz2 rfl (by decide) rfl (HP.out.stays ((Below.refl _ _).alloc (Nat.le_refl _) _)) rfl (rootL (ls.take k)) rfl (rd_one _ _ _) (by simp [encB, Value.oneCell']) (VR.out.stays ((Below.refl _ _).alloc (Nat.le_refl _) _)) HO.out ?c1 ?c2 ?c3 ?_)
      case c1 => unfold maxLen; omega
      case c2 => omega
      case c3 => simp; omega
      intro A8 c8 w8 hown8 hg8 hb8
      have H8 := Lib.hid hown8
      have hB8 : Below w.heap.size w w8 := (R3.out.alloc hs3 _).trans ((hb8.mono hs1))
      clear hown8 hg8 hb8
      go_wp2
      go_ret
      exact ⟨A8, m2 + 1, c8, rfl, by rw [HE.out]; exact H8.out.more hs1, by omega, hB8⟩
end Go.Proofs.Ytahphlcahaheiaa
