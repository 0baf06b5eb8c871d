/- TreeDepths: the walk. -/
import Derived.Test.YtahphlcahaheiaaTreeK
import Derived.Test.YtahphlcahaheiaaSame
namespace Go.Proofs.Ytahphlcahaheiaa
open Go.RowKit

theorem half_pow {n a : Nat} (h1 : 2 ≤ n) (h2 : n ≤ 2 ^ (a + 1)) : halfN n ≤ 2 ^ a := by
  have hl := half_lt h1
  unfold halfN at hl ⊢
  rcases Nat.lt_or_ge a (n - 1).log2 with h | h
  · have := Nat.pow_le_pow_right (n := 2) (by omega) h
    omega
  · exact Nat.pow_le_pow_right (by omega) h
theorem depth_le : ∀ (a n i : Nat), 1 ≤ n → n ≤ 2 ^ a → i < n → depthN n i ≤ a
  | 0, n, i, h1, h2, _ => by rw [depthN, if_pos (by simpa using h2)]; omega
  | a + 1, n, i, h1, h2, hi => by
    rw [depthN]
    by_cases h : n ≤ 1
    · rw [if_pos h]; omega
    · rw [if_neg h]
      have hk := half_pow (a := a) (by omega) h2
      have hl := half_lt (n := n) (by omega)
      have he := half_le (n := n) (by omega)
      have hp := half_pos n
      split
      · have := depth_le a (halfN n) i (by omega) hk (by omega)
        omega
      · have := depth_le a (n - halfN n) (i - halfN n) (by omega) (by omega) (by omega)
        omega
theorem depth_zero : ∀ (a n : Nat), n ≤ 2 ^ a → (a = 0 ∨ 2 ^ a < 2 * n) → 1 ≤ n → depthN n 0 = a
  | 0, n, h2, _, _ => by rw [depthN, if_pos (by simpa using h2)]
  | a + 1, n, h2, h3, h1 => by
    have h3' : 2 ^ a < n := by rw [Nat.pow_succ] at h3; omega
    have hp := Nat.two_pow_pos a
    have hk : halfN n = 2 ^ a := half_only (a := a) rfl h3' (by rw [Nat.pow_succ] at h2; omega)
    rw [depthN, if_neg (by omega), hk, if_pos hp, depth_zero a (2 ^ a) (Nat.le_refl _) (by omega) hp]
theorem depth_last : ∀ (a : Nat), depthN (2 ^ a) (2 ^ a - 1) = a
  | 0 => by rw [depthN, if_pos (by simp)]
  | a + 1 => by
    have hp := Nat.two_pow_pos a
    have hs : 2 ^ (a + 1) = 2 * 2 ^ a := by rw [Nat.pow_succ]; omega
    have hk : halfN (2 ^ (a + 1)) = 2 ^ a := half_only (a := a) rfl (by omega) (by omega)
    rw [depthN, if_neg (by omega), hk, if_neg (by omega), show 2 ^ (a + 1) - 2 ^ a = 2 ^ a by omega, show 2 ^ (a + 1) - 1 - 2 ^ a = 2 ^ a - 1 by omega, depth_last a]
set_option maxRecDepth 100000 in
set_option maxHeartbeats 4000000 in
theorem treeDepths_walk (s n i : Int) (w : World) :
    Calls Try.prog 9 #[.int .i64 s, .int .i64 n, .int .i64 i] w fun e w' => e = .returned (.bool true) ∧ Below w.heap.size w w' := by
  obtain ⟨x, hx, hx2⟩ : ∃ x : Nat, s % 1000 = (x : Int) ∧ x < 1000 := ⟨(s % 1000).toNat, by omega, by omega⟩
  have Hx := Lib.hid hx
  clear hx
  obtain ⟨y, hy, hy2⟩ : ∃ y : Nat, n % 30 = (y : Int) ∧ y < 30 := ⟨(n % 30).toNat, by omega, by omega⟩
  have Hy := Lib.hid hy
  clear hy
  go_enter Try.func9, Try.ntmps9
  go_wp2_with fail
  refine (within_any n 30 (by decide) (by decide) _).mono ?_
  rintro e w1 ⟨rfl, rfl⟩
  rw [Hy.out]
  obtain ⟨N, hN⟩ : ∃ N : Nat, (1 : Int) + (y : Int) = (N : Int) := ⟨1 + y, by omega⟩
  have hN2 : 1 ≤ N := by omega
  have hN3 : N ≤ 30 := by omega
  go_wp2_with fail
  clear hN
  refine (leaves_any s x N _ Hx.out (by omega)).mono ?_
  rintro e w1 ⟨AL, cL, rfl, hv, hb⟩
  have hbx : Below w.heap.size w w1 := below_via (by go_grown) hb (by first | (simp; done) | (simp; omega))
  have LB := Lib.hid hv.lists
  have R1 := Lib.hid hbx
  have hs1 := R1.out.size
  clear hb hbx 
  clear hv
  have l1 := LB.out.le
  have l2 := LB.out.cap
  have HF := Lib.hid (leavesL_few x N)
  have HLn := Lib.hid (leavesL_length x N)
  generalize leavesL x N = L at *
  obtain ⟨z, hz, hz2⟩ : ∃ z : Nat, i % (N : Int) = (z : Int) ∧ z < N := by
    have h1 := Int.emod_nonneg i (show (N : Int) ≠ 0 by omega)
    have h2 := Int.emod_lt_of_pos i (show (0 : Int) < N by omega)
    exact ⟨(i % (N : Int)).toNat, by omega, by omega⟩
  have HZ := Lib.hid hz
  clear hz
  go_wp2_with fail
  refine (within_any i N (by omega) (by omega) _).mono ?_
  rintro e w2 ⟨rfl, rfl⟩
  rw [HZ.out]
  go_wp2_with fail
  refine (pathOf_ok LB.out (by omega) HF.out hz2).mono ?_
  rintro e w2 ⟨A1, m1, c1, rfl, hv, hm1, hb⟩
  have hbx : Below w1.heap.size w1 w2 := below_via (by go_grown) hb (by first | (simp; done) | (simp; omega))
  have LB := Lib.hid (LB.out.stays hbx)
  have P1 := Lib.hid hv
  have R2 := Lib.hid (R1.out.trans (hbx.mono hs1))
  have hs2 := R2.out.size
  clear hb hbx hv
  clear R1
  go_wp2_with fail
  refine (pathOf_ok (i := 0) LB.out (by omega) HF.out (by omega)).mono ?_
  rintro e w3 ⟨A2, m2, c2, rfl, hv, hm2, hb⟩
  have hbx : Below w2.heap.size w2 w3 := below_via (by go_grown) hb (by first | (simp; done) | (simp; omega))
  have LB := Lib.hid (LB.out.stays hbx)
  have P1 := Lib.hid (P1.out.stays hbx)
  have P2 := Lib.hid hv
  have R3 := Lib.hid (R2.out.trans (hbx.mono hs2))
  have hs3 := R3.out.size
  clear hb hbx hv
  clear R2
  have e1 : m1 = depthN N z := by
    rw [← P1.out.len (by decide), path_length, List.length_map, HLn.out]
  have e2 : m2 = depthN N 0 := by
    rw [← P2.out.len (by decide), path_length, List.length_map, HLn.out]
  have E1 := Lib.hid e1
  have E2 := Lib.hid e2
  clear e1 e2
  go_wp2
  go_loop [12, 13] (fun l k => ∃ (q a : Nat), k = .int .i64 q ∧ l = .int .i64 a ∧ Hid (q = 2 ^ a ∧ (a = 0 ∨ 2 ^ a < 2 * N)) ∧ q < 2 * N ∧ a ≤ q) (fun _ k => 2 * N - (intOf k).toNat)
  case atStart => exact ⟨1, 0, rfl, rfl, ⟨rfl, .inl rfl⟩, by omega, by omega⟩
  case round =>
    obtain ⟨q, a, rfl, rfl, hq, hqn, haq⟩ := hrel
    have hq0 : 0 < q := by rw [hq.out.1]; exact Nat.two_pow_pos a
    by_cases h : q < N
    · have hi : (q : Int) < (N : Int) := by omega
      go_wp2
      go_round
      case rel => exact ⟨2 * q, a + 1, by go_num, by go_num, ⟨by rw [hq.out.1, Nat.pow_succ]; omega, .inr (by rw [Nat.pow_succ, ← hq.out.1]; omega)⟩, by omega, by omega⟩
      case measure => simp [intOf]; omega
    · have hi : ¬ (q : Int) < (N : Int) := by omega
      have D1 : m1 ≤ a := by rw [E1.out]; exact depth_le a N z hN2 (by rw [← hq.out.1]; omega) hz2
      have D2 : m2 = a := by rw [E2.out]; exact depth_zero a N (by rw [← hq.out.1]; omega) hq.out.2 hN2
      have D3 : Hid (q = N → depthN N (N - 1) = a) := fun e => by rw [← e, hq.out.1]; exact depth_last a
      subst D2
      clear E2
      obtain ⟨M, hM⟩ : ∃ M, N - 1 = M := ⟨_, rfl⟩
      have hMi : (N : Int) - 1 = (M : Int) := by omega
      have D1i : ¬ (m1 : Int) > (m2 : Int) := by omega
      go_wp2_with fail
      refine (pathOf_ok (i := M) LB.out (by omega) HF.out (by omega)).mono ?_
      rintro e w4 ⟨A3, m3, c3, rfl, hv, hm3, hb⟩
      have hbx : Below w3.heap.size w3 w4 := below_via (by go_grown) hb (by first | (simp; done) | (simp; omega))
      have LB := Lib.hid (LB.out.stays hbx)
      have P1 := Lib.hid (P1.out.stays hbx)
      have P2 := Lib.hid (P2.out.stays hbx)
      have P3 := Lib.hid hv
      have R4 := Lib.hid (R3.out.trans (hbx.mono hs3))
      have hs4 := R4.out.size
      clear hb hbx hv
      clear R3
      have e3 : m3 = depthN N M := by
        rw [← P3.out.len (by decide), path_length, List.length_map, HLn.out]
      have E3 := Lib.hid e3
      clear e3 hMi
      by_cases h1n : N = 1
      · subst h1n
        obtain rfl : M = 0 := by omega
        have hm30 : m3 = 0 := by rw [E3.out, depthN, if_pos (by omega)]
        subst hm30
        go_wp2_with fail
        refine (treeKnown _).mono ?_
        rintro e w5 ⟨rfl, hb⟩
        have hbx : Below w4.heap.size w4 w5 := below_via (by go_grown) hb (by first | (simp; done) | (simp; omega))
        have LB := Lib.hid (LB.out.stays hbx)
        have P1 := Lib.hid (P1.out.stays hbx)
        have P2 := Lib.hid (P2.out.stays hbx)
        have P3 := Lib.hid (P3.out.stays hbx)
        have R5 := Lib.hid (R4.out.trans (hbx.mono hs4))
        have hs5 := R5.out.size
        clear hb hbx 
        clear R4
        go_wp2
        go_ret
        exact ⟨rfl, R5.out⟩
      have hn1 : ((N : Int) == 1) = false := by simp; omega
      have hN22 : 2 ≤ N := by omega
      have HLast : Hid (pathL (L.map leafL) M = pathL ((L.map leafL).drop (halfN N)) (M - halfN N) ++ [rootL ((L.take (halfN N)).map leafL)]) := by
        have hl := half_lt hN22
        unfold Hid
        rw [pathL, List.length_map, HLn.out, if_neg (by omega), if_neg (by omega), List.map_take]
      go_wp2
      go_loop [16] (fun k => ∃ (q2 a2 : Nat), k = .int .i64 q2 ∧ Hid (q2 = 2 ^ a2) ∧ q2 < N) (fun k => N - (intOf k).toNat)
      case atStart => exact ⟨1, 0, rfl, rfl, by omega⟩
      case round =>
        obtain ⟨q2, a2, rfl, hq2, hqn2⟩ := hrel
        have hq02 : 0 < q2 := by rw [hq2.out]; exact Nat.two_pow_pos a2
        by_cases h22 : 2 * q2 < N
        · have hi2 : 2 * (q2 : Int) < (N : Int) := by omega
          go_wp2
          go_round
          case rel => exact ⟨2 * q2, a2 + 1, by go_num, by have := hq2.out; unfold Hid; rw [Nat.pow_succ]; omega, h22⟩
          case measure => simp [intOf]; omega
        · have hi2 : ¬ 2 * (q2 : Int) < (N : Int) := by omega
          have HE := Lib.hid (half_only (n := N) hq2.out hqn2 (by omega))
          rw [HE.out] at HLast
          have hm3 : 0 < m3 := by rw [← P3.out.len (by decide), HLast.out]; simp
          have kc : (q2 : Int) ≤ (cL : Int) := by omega
          have kn0 : (0 : Int) ≤ (q2 : Int) := by omega
          go_wp2_with fail
          refine (rootOf_ok (LB.out.cutTo q2 (by omega)) (by omega) (HF.out.take q2)).mono ?_
          rintro e w5 ⟨A4, c4, rfl, hv, hf, hb⟩
          have hbx : Below w4.heap.size w4 w5 := below_via (by go_grown) hb (by first | (simp; done) | (simp; omega))
          have LB := Lib.hid (LB.out.stays hbx)
          have P1 := Lib.hid (P1.out.stays hbx)
          have P2 := Lib.hid (P2.out.stays hbx)
          have P3 := Lib.hid (P3.out.stays hbx)
          have V4 := Lib.hid hv
          have R5 := Lib.hid (R4.out.trans (hbx.mono hs4))
          have hs5 := R5.out.size
          clear hb hbx hv
          clear R4
          clear hf
          go_wp2_with fail
          refine (treeKnown _).mono ?_
          rintro e w6 ⟨rfl, hb⟩
          have hbx : Below w5.heap.size w5 w6 := below_via (by go_grown) hb (by first | (simp; done) | (simp; omega))
          have LB := Lib.hid (LB.out.stays hbx)
          have P1 := Lib.hid (P1.out.stays hbx)
          have P2 := Lib.hid (P2.out.stays hbx)
          have P3 := Lib.hid (P3.out.stays hbx)
          have V4 := Lib.hid (V4.out.stays hbx)
          have R6 := Lib.hid (R5.out.trans (hbx.mono hs5))
          have hs6 := R6.out.size
          clear hb hbx 
          clear R5
          obtain ⟨j, hj⟩ : ∃ j, m3 = j + 1 := ⟨m3 - 1, by omega⟩
          subst hj
          obtain ⟨b, off, A5, n5, c5, rfl, hc5, hy⟩ := P3.out.lists.at_ (i := j) (by omega)
          have HY := Lib.hid hy
          have HEq : Hid (listAt (pathL (L.map leafL) M) j = rootL ((L.take q2).map leafL)) := by
            have hlen := P3.out.len (by decide)
            unfold Hid
            rw [HLast.out] at hlen ⊢
            rw [List.length_append, List.length_singleton] at hlen
            unfold listAt
            rw [List.getD, List.getElem?_append_right (by omega), show j - (pathL ((L.map leafL).drop q2) (M - q2)).length = 0 by omega]
            rfl
          have p1 := P3.out.le
          have p2 := P3.out.cap
          clear hy
          have ji : ((j + 1 : Nat) : Int) - 1 = (j : Int) := by omega
          have ji2 : (j : Int) + 1 - 1 = (j : Int) := by omega
          by_cases hfull : q = N
          all_goals
            first
              | (have hf1 : ((q : Int) != (N : Int)) = true := by (simp; omega))
              | (have hf1 : ((q : Int) != (N : Int)) = false := by (simp; omega))
            have HF2 : Hid (q = N → j + 1 = m2) := fun e => by have := D3.out e; rw [hM, ← E3.out] at this; exact this
            go_wp2_with fail
            refine (refSame_true HY.out V4.out HEq.out).mono ?_
            rintro e w7 ⟨rfl, rfl⟩
            first
              | (have hf2 := HF2.out hfull)
              | skip
            go_wp2
            go_ret
            exact ⟨rfl, R6.out⟩
end Go.Proofs.Ytahphlcahaheiaa
