/- Trees: reference path and proof. -/
import Derived.Test.YtahphlcahaheiaaTreeD
namespace Go.Proofs.Ytahphlcahaheiaa
open Go.RowKit

set_option maxRecDepth 100000 in
set_option maxHeartbeats 4000000 in
theorem refPath_any (n : Nat) : ∀ (ls : List (List UInt8)) (i : Nat) (A : Option Addr) (c : Nat) (w : World), Lists w A n c ls → i < n → n ≤ 1024 → few ls →
    Calls Try.prog 76 #[.slice A n c, .int .i64 i] w fun e w' => ∃ A' m' c', e = .returned (.slice A' m' c') ∧ OwnItems 1 encB id 22 w' w.heap.size A' m' c' (pathL (ls.map leafL) i) ∧ m' ≤ n ∧ Below w.heap.size w w' := by
  obtain ⟨i0, hi, hz0, hz1, hz2⟩ := info_parts infoHash
  induction n using Nat.strongRecOn with
  | ind n ih =>
  intro ls i A c w h hin hn hall
  have IH := Lib.hid ih
  have HA := Lib.hid hall
  have HB := Lib.hid h
  have HLn := Lib.hid h.len
  have hcl := h.le
  have hcc := h.cap
  clear ih hall h
  by_cases h1 : n = 1
  · subst h1
    have HR : Hid (pathL (ls.map leafL) i = []) := by unfold Hid; rw [pathL, if_pos (by rw [List.length_map, HLn.out]; omega)]
    go_enter Try.func76, Try.ntmps76
    go_wp2
    go_ret
    exact ⟨none, 0, 0, rfl, by rw [HR.out]; exact OwnItems.nil _ _, by omega, by go_grown⟩
  · have h2 : 2 ≤ n := by omega
    have hb1 : ((n : Int) == 1) = false := by simp; omega
    clear h1
    have HRl : Hid (i < halfN n → pathL (ls.map leafL) i = pathL ((ls.take (halfN n)).map leafL) i ++ [rootL ((ls.drop (halfN n)).map leafL)]) := fun hlt => by rw [pathL, List.length_map, HLn.out, if_neg (by omega), if_pos hlt, List.map_take, List.map_drop]
    have HRr : Hid (¬ i < halfN n → pathL (ls.map leafL) i = pathL ((ls.drop (halfN n)).map leafL) (i - halfN n) ++ [rootL ((ls.take (halfN n)).map leafL)]) := fun hlt => by rw [pathL, List.length_map, HLn.out, if_neg (by omega), if_neg hlt, List.map_take, List.map_drop]
    have hk1 := half_lt h2
    have hk0 := half_pos n
    go_enter Try.func76, Try.ntmps76
    go_wp2_with fail
    refine (split_any _ _ h2 (by omega)).mono ?_
    rintro e w1 ⟨rfl, rfl⟩
    generalize halfN n = k at *
    have TL := Lib.hid (HB.out.cutTo k (by omega))
    have TR := Lib.hid (HB.out.cutFrom k (by omega) (d := n - k) (k := c - k) rfl rfl)
    clear HB
    have s1 := run_cutFrom und_lists size_list (A := A) (n := n) (c := c) (k : Int) k (n - k) (c - k) rfl (by omega) rfl rfl
    have kc : (k : Int) ≤ (c : Int) := by omega
    have kn0 : (0 : Int) ≤ (k : Int) := by omega
    by_cases hik : i < k
    · have hiki : (i : Int) < (k : Int) := by omega
      have HE := Lib.hid (HRl.out hik)
      go_wp2_with fail
      go_region_law (first
        | (refine step_append_items rfl _ _ 33 rfl i0 _ 24 Try.underlying33 hi hz0 hz1 hz2 rfl (by decide) rfl (HP.stays (show Below w2.heap.size w2 _ from R23.alloc R23.size _)) rfl (rootL ((ls.drop k).map leafL)) rfl (rd_one _ _ _) (by simp [encB, Value.oneCell']) (hv3.stays ((Below.refl _ _).alloc (Nat.le_refl _) _)) (Off.fresh hf3 (fun q hq => by have := HP.lt q hq; first | exact this | simpa using this)) (by unfold maxLen; omega) (by omega) (by have := R23.size; have := R2.size; simp; omega) ?_; intro A8 c8 w8 hown8 hg8 hb8)
        | (go_simp; go_at_call 76; (with_reducible refine (IH.out k hk1 _ i _ _ _ (TL.out.stays (by go_grown)) hik (by omega) (HA.out.take k)).mono ?_); rintro e w2 ⟨A2, m2, c2, rfl, HP, hm2, hb2⟩; have R2 : Below w.heap.size w w2 := below_via (by go_grown) hb2 (by first | (simp; done) | (simp; omega)))
        | (go_simp; go_at_call 75; (with_reducible refine (refRoot_any _ _ _ _ _ (TR.out.stays (R2.trans (by go_grown))) (by omega) (HA.out.drop k)).mono ?_); rintro e w3 ⟨A3, c3, rfl, hv3, hf3, hb3⟩; have R23 : Below w2.heap.size w2 w3 := below_via (show Below w2.heap.size w2 _ by go_grown) hb3 (by first | (simp; done) | (simp; omega))))
      all_goals
        have H8 := Lib.hid (hown8.more (B' := w.heap.size) (by first | exact Nat.le_refl _ | (simp; done) | (simp; omega)))
        have hB8 : Below w.heap.size w w8 := (R2.trans ((R23.alloc R23.size _).mono R2.size)).trans (hb8.mono (by first | exact Nat.le_refl _ | (simp; done) | (simp; omega)))
        clear hown8 hg8 hb8
        go_wp2
        go_ret
        exact ⟨A8, m2 + 1, c8, rfl, by rw [HE.out]; exact H8, by omega, hB8⟩
    · have hiki : ¬ (i : Int) < (k : Int) := by omega
      have HE := Lib.hid (HRr.out hik)
      obtain ⟨j, hj0⟩ : ∃ j, i - k = j := ⟨_, rfl⟩
      rw [hj0] at HE
      have hj : (i : Int) - (k : Int) = (j : Int) := by omega
      have hj1 : j ≤ n - k := by omega
      have hj2 : j + k = i := by omega
      have hjw : IntKind.i64.wrap (j : Int) = (j : Int) := IntWalk.i64_in _ (by omega)
      clear hj0
      go_wp2_with fail
      go_region_law (first
        | (refine step_append_items rfl _ _ 33 rfl i0 _ 24 Try.underlying33 hi hz0 hz1 hz2 rfl (by decide) rfl (HP.stays (show Below w2.heap.size w2 _ from R23.alloc R23.size _)) rfl (rootL ((ls.take k).map leafL)) rfl (rd_one _ _ _) (by simp [encB, Value.oneCell']) (hv3.stays ((Below.refl _ _).alloc (Nat.le_refl _) _)) (Off.fresh hf3 (fun q hq => by have := HP.lt q hq; first | exact this | simpa using this)) (by unfold maxLen; omega) (by omega) (by have := R23.size; have := R2.size; simp; omega) ?_; intro A8 c8 w8 hown8 hg8 hb8)
        | (go_simp; go_at_call 76; (with_reducible refine (IH.out (n - k) (by omega) _ j _ _ _ (TR.out.stays (by go_grown)) (by omega) (by omega) (HA.out.drop k)).mono ?_); rintro e w2 ⟨A2, m2, c2, rfl, HP, hm2, hb2⟩; have R2 : Below w.heap.size w w2 := below_via (by go_grown) hb2 (by first | (simp; done) | (simp; omega)))
        | (go_simp; go_at_call 75; (with_reducible refine (refRoot_any _ _ _ _ _ (TL.out.stays (R2.trans (by go_grown))) (by omega) (HA.out.take k)).mono ?_); rintro e w3 ⟨A3, c3, rfl, hv3, hf3, hb3⟩; have R23 : Below w2.heap.size w2 w3 := below_via (show Below w2.heap.size w2 _ by go_grown) hb3 (by first | (simp; done) | (simp; omega))))
      all_goals
        have H8 := Lib.hid (hown8.more (B' := w.heap.size) (by first | exact Nat.le_refl _ | (simp; done) | (simp; omega)))
        have hB8 : Below w.heap.size w w8 := (R2.trans ((R23.alloc R23.size _).mono R2.size)).trans (hb8.mono (by first | exact Nat.le_refl _ | (simp; done) | (simp; omega)))
        clear hown8 hg8 hb8
        go_wp2
        go_ret
        exact ⟨A8, m2 + 1, c8, rfl, by rw [HE.out]; exact H8, by omega, hB8⟩
set_option maxRecDepth 100000 in
set_option maxHeartbeats 4000000 in
theorem refProof_any (n : Nat) : ∀ (ls : List (List UInt8)) (m : Nat) (b : Bool) (A : Option Addr) (c : Nat) (w : World), Lists w A n c ls → 1 ≤ m → m ≤ n → n ≤ 1024 → few ls →
    Calls Try.prog 79 #[.int .i64 m, .slice A n c, .bool b] w fun e w' => ∃ A' m' c', e = .returned (.slice A' m' c') ∧ OwnItems 1 encB id 22 w' w.heap.size A' m' c' (proofL (ls.map leafL) m b) ∧ m' ≤ n ∧ Below w.heap.size w w' := by
  obtain ⟨i0, hi, hz0, hz1, hz2⟩ := info_parts infoHash
  induction n using Nat.strongRecOn with
  | ind n ih =>
  intro ls m b A c w h hm1 hmn hn hall
  have IH := Lib.hid ih
  have HA := Lib.hid hall
  have HB := Lib.hid h
  have HLn := Lib.hid h.len
  have hcl := h.le
  have hcc := h.cap
  clear ih hall h
  by_cases h1 : m = n
  · subst h1
    cases b with
    | true =>
      have HR : Hid (proofL (ls.map leafL) m true = []) := by unfold Hid; rw [proofL, if_pos (.inr (by rw [List.length_map]; exact HLn.out.symm))]; rfl
      go_enter Try.func79, Try.ntmps79
      go_wp2
      go_ret
      exact ⟨none, 0, 0, rfl, by rw [HR.out]; exact OwnItems.nil _ _, by omega, by go_grown⟩
    | false =>
      have HR : Hid (proofL (ls.map leafL) m false = [rootL (ls.map leafL)]) := by unfold Hid; rw [proofL, if_pos (.inr (by rw [List.length_map]; exact HLn.out.symm))]; rfl
      go_enter Try.func79, Try.ntmps79
      go_wp2_with fail
      refine (refRoot_any _ _ _ _ _ HB.out (by omega) HA.out).mono ?_
      rintro e w3 ⟨A3, c3, rfl, hv, hf, hb⟩
      have VR := Lib.hid hv
      have hs := hb.size
      clear hv hf
      go_wp2
      go_ret
      exact ⟨_, 1, 1, rfl, by rw [HR.out]; exact (OwnItems.one VR.out).more hs, by omega, by go_grown⟩
  · have h2 : 2 ≤ n := by omega
    have hb1 : ((m : Int) == (n : Int)) = false := by simp; omega
    have hb2 : decide (m = n) = false := by simp; omega
    have HNE := Lib.hid h1
    clear h1
    have HRl : Hid (m ≤ halfN n → proofL (ls.map leafL) m b = proofL ((ls.take (halfN n)).map leafL) m b ++ [rootL ((ls.drop (halfN n)).map leafL)]) := fun hlt => by
      rw [proofL, List.length_map, HLn.out, if_neg (by have := HNE.out; omega), if_pos hlt, List.map_take, List.map_drop]
    have HRr : Hid (¬ m ≤ halfN n → proofL (ls.map leafL) m b = proofL ((ls.drop (halfN n)).map leafL) (m - halfN n) false ++ [rootL ((ls.take (halfN n)).map leafL)]) := fun hlt => by
      rw [proofL, List.length_map, HLn.out, if_neg (by have := HNE.out; omega), if_neg hlt, List.map_take, List.map_drop]
    have hk1 := half_lt h2
    have hk0 := half_pos n
    go_enter Try.func79, Try.ntmps79
    go_wp2_with fail
    refine (split_any _ _ h2 (by omega)).mono ?_
    rintro e w1 ⟨rfl, rfl⟩
    generalize halfN n = k at *
    have TL := Lib.hid (HB.out.cutTo k (by omega))
    have TR := Lib.hid (HB.out.cutFrom k (by omega) (d := n - k) (k := c - k) rfl rfl)
    clear HB
    have s1 := run_cutFrom und_lists size_list (A := A) (n := n) (c := c) (k : Int) k (n - k) (c - k) rfl (by omega) rfl rfl
    have kc : (k : Int) ≤ (c : Int) := by omega
    have kn0 : (0 : Int) ≤ (k : Int) := by omega
    by_cases hik : m ≤ k
    · have hiki : (m : Int) ≤ (k : Int) := by omega
      have HE := Lib.hid (HRl.out hik)
      go_wp2_with fail
      go_region_law (first
        | (refine step_append_items rfl _ _ 33 rfl i0 _ 24 Try.underlying33 hi hz0 hz1 hz2 rfl (by decide) rfl (HP.stays (show Below w2.heap.size w2 _ from R23.alloc R23.size _)) rfl (rootL ((ls.drop k).map leafL)) rfl (rd_one _ _ _) (by simp [encB, Value.oneCell']) (hv3.stays ((Below.refl _ _).alloc (Nat.le_refl _) _)) (Off.fresh hf3 (fun q hq => by have := HP.lt q hq; first | exact this | simpa using this)) (by unfold maxLen; omega) (by omega) (by have := R23.size; have := R2.size; simp; omega) ?_; intro A8 c8 w8 hown8 hg8 hb8)
        | (go_simp; go_at_call 79; (with_reducible refine (IH.out k hk1 _ m b _ _ _ (TL.out.stays (by go_grown)) hm1 hik (by omega) (HA.out.take k)).mono ?_); rintro e w2 ⟨A2, m2, c2, rfl, HP, hm2, hb2⟩; have R2 : Below w.heap.size w w2 := below_via (by go_grown) hb2 (by first | (simp; done) | (simp; omega)))
        | (go_simp; go_at_call 75; (with_reducible refine (refRoot_any _ _ _ _ _ (TR.out.stays (R2.trans (by go_grown))) (by omega) (HA.out.drop k)).mono ?_); rintro e w3 ⟨A3, c3, rfl, hv3, hf3, hb3⟩; have R23 : Below w2.heap.size w2 w3 := below_via (show Below w2.heap.size w2 _ by go_grown) hb3 (by first | (simp; done) | (simp; omega))))
      all_goals
        have H8 := Lib.hid (hown8.more (B' := w.heap.size) (by first | exact Nat.le_refl _ | (simp; done) | (simp; omega)))
        have hB8 : Below w.heap.size w w8 := (R2.trans ((R23.alloc R23.size _).mono R2.size)).trans (hb8.mono (by first | exact Nat.le_refl _ | (simp; done) | (simp; omega)))
        clear hown8 hg8 hb8
        go_wp2
        go_ret
        exact ⟨A8, m2 + 1, c8, rfl, by rw [HE.out]; exact H8, by omega, hB8⟩
    · have hiki : ¬ (m : Int) ≤ (k : Int) := by omega
      have HE := Lib.hid (HRr.out hik)
      obtain ⟨j, hj0⟩ : ∃ j, m - k = j := ⟨_, rfl⟩
      rw [hj0] at HE
      have hj : (m : Int) - (k : Int) = (j : Int) := by omega
      have hj1 : j ≤ n - k := by omega
      have hj2 : j + k = m := by omega
      have hjw : IntKind.i64.wrap (j : Int) = (j : Int) := IntWalk.i64_in _ (by omega)
      clear hj0
      go_wp2_with fail
      go_region_law (first
        | (refine step_append_items rfl _ _ 33 rfl i0 _ 24 Try.underlying33 hi hz0 hz1 hz2 rfl (by decide) rfl (HP.stays (show Below w2.heap.size w2 _ from R23.alloc R23.size _)) rfl (rootL ((ls.take k).map leafL)) rfl (rd_one _ _ _) (by simp [encB, Value.oneCell']) (hv3.stays ((Below.refl _ _).alloc (Nat.le_refl _) _)) (Off.fresh hf3 (fun q hq => by have := HP.lt q hq; first | exact this | simpa using this)) (by unfold maxLen; omega) (by omega) (by have := R23.size; have := R2.size; simp; omega) ?_; intro A8 c8 w8 hown8 hg8 hb8)
        | (go_simp; go_at_call 79; (with_reducible refine (IH.out (n - k) (by omega) _ j false _ _ _ (TR.out.stays (by go_grown)) (by omega) (by omega) (by omega) (HA.out.drop k)).mono ?_); rintro e w2 ⟨A2, m2, c2, rfl, HP, hm2, hb2⟩; have R2 : Below w.heap.size w w2 := below_via (by go_grown) hb2 (by first | (simp; done) | (simp; omega)))
        | (go_simp; go_at_call 75; (with_reducible refine (refRoot_any _ _ _ _ _ (TL.out.stays (R2.trans (by go_grown))) (by omega) (HA.out.take k)).mono ?_); rintro e w3 ⟨A3, c3, rfl, hv3, hf3, hb3⟩; have R23 : Below w2.heap.size w2 w3 := below_via (show Below w2.heap.size w2 _ by go_grown) hb3 (by first | (simp; done) | (simp; omega))))
      all_goals
        have H8 := Lib.hid (hown8.more (B' := w.heap.size) (by first | exact Nat.le_refl _ | (simp; done) | (simp; omega)))
        have hB8 : Below w.heap.size w w8 := (R2.trans ((R23.alloc R23.size _).mono R2.size)).trans (hb8.mono (by first | exact Nat.le_refl _ | (simp; done) | (simp; omega)))
        clear hown8 hg8 hb8
        go_wp2
        go_ret
        exact ⟨A8, m2 + 1, c8, rfl, by rw [HE.out]; exact H8, by omega, hB8⟩
end Go.Proofs.Ytahphlcahaheiaa
