/- OctetsJoin: the walk. -/
import Derived.Test.YtofadjcphaehcaaCut
import Derived.Test.YtofadjcphaehcaaJoinO
import Derived.Test.YtofadjcphaehcaaOctK
import Derived.Test.YtofadjcphaehcaaEq
namespace Go.Proofs.Ytofadjcphaehcaa
open Go.RowKit

theorem octSame_true' : True := trivial
theorem octSame_true {A : Option Addr} {n c : Nat} {l : List UInt8} {A2 : Option Addr} {n2 c2 : Nat} {w : World} (h1 : Bytes w A n c l) (h2 : Bytes w A2 n2 c2 l) :
    Calls Try.prog 19 #[.slice A n c, .slice A2 n2 c2] w fun e w' => e = .returned (.bool true) ∧ w = w' :=
  (octSame_any A n c l A2 n2 c2 l w h1 h2).mono fun e w' h => by rw [decide_eq_true rfl] at h; exact h
theorem pad_in (l : List UInt8) (A : Option Addr) (n c k : Nat) (w : World) (h : Bytes w A n c l) (hn : n ≤ 100000) (h1 : 1 ≤ k) (h2 : k ≤ 64) :
    Calls Try.prog 45 #[.slice A n c, .int .i64 k] w fun e w' => ∃ A' c', e = .returned (.slice A' (n + padZ n k) c') ∧ Bytes w' A' (n + padZ n k) c' (l ++ List.replicate (padZ n k) 0) ∧ Below w.heap.size w w' := by
  refine (pad_any l A n c k w h hn).mono ?_
  rintro e w' ⟨A', m, c', rfl, hv, hb⟩
  have hp : padB l k = l ++ List.replicate (padZ n k) 0 := by
    unfold padB
    rw [if_pos (by omega), h.len]; rfl
  rw [hp] at hv
  have hm : m = n + padZ n k := by
    have := hv.len
    rw [List.length_append, List.length_replicate, h.len] at this
    exact this.symm
  subst hm
  exact ⟨A', c', rfl, hv, hb⟩
theorem strOf_size (a : List UInt8) : (strOf a).size = a.length := by simp [strOf, ByteArray.size]
theorem strOf_append (a b : List UInt8) : strOf (a ++ b) = strOf a ++ strOf b := by
  unfold strOf
  apply ByteArray.ext
  simp
set_option maxRecDepth 100000 in
set_option maxHeartbeats 4000000 in
theorem octetsJoin_walk (Aa : Option Addr) (na ca : Nat) (la : List UInt8) (Ab : Option Addr) (nb cb : Nat) (lb : List UInt8) (Ac : Option Addr) (nc cc : Nat) (lc : List UInt8) (k : Int) (w : World) (ha : Bytes w Aa na ca la) (hb : Bytes w Ab nb cb lb) (hc : Bytes w Ac nc cc lc) :
    Calls Try.prog 12 #[.slice Aa na ca, .slice Ab nb cb, .slice Ac nc cc, .int .i64 k] w fun e w' => e = .returned (.bool true) ∧ Below w.heap.size w w' := by
  have qa1 := ha.le
  have qa2 := ha.cap
  have qb1 := hb.le
  have qb2 := hb.cap
  have qc1 := hc.le
  have qc2 := hc.cap
  by_cases hna : 60 < na
  · have hnia : (na : Int) > 60 := by omega
    clear ha hb hc
    go_enter Try.func12, Try.ntmps12
    go_wp2_with fail
    refine (octKnown _).mono ?_
    rintro e w1 ⟨rfl, hb⟩
    go_wp2
    go_ret
    exact ⟨rfl, hb⟩
  have hnia : ¬ (na : Int) > 60 := by omega
  by_cases hnb : 60 < nb
  · have hnib : (nb : Int) > 60 := by omega
    clear ha hb hc
    go_enter Try.func12, Try.ntmps12
    go_wp2_with fail
    refine (octKnown _).mono ?_
    rintro e w1 ⟨rfl, hb⟩
    go_wp2
    go_ret
    exact ⟨rfl, hb⟩
  have hnib : ¬ (nb : Int) > 60 := by omega
  by_cases hnc : 60 < nc
  · have hnic : (nc : Int) > 60 := by omega
    clear ha hb hc
    go_enter Try.func12, Try.ntmps12
    go_wp2_with fail
    refine (octKnown _).mono ?_
    rintro e w1 ⟨rfl, hb⟩
    go_wp2
    go_ret
    exact ⟨rfl, hb⟩
  have hnic : ¬ (nc : Int) > 60 := by omega
  have hla := Lib.hid ha.len
  have hlb := Lib.hid hb.len
  have hlc := Lib.hid hc.len
  have XA := Lib.hid ha
  have XB := Lib.hid hb
  have XC := Lib.hid hc
  clear ha hb hc
  obtain ⟨N, h⟩ : ∃ x, na + nb + nc = x := ⟨_, rfl⟩
  have hN3b : N ≤ 180 := by omega
  have hNa : na ≤ N := by omega
  have hDrN : Hid (N - na = nb + nc) := by unfold Hid; omega
  have hlN : Hid ((la ++ lb ++ lc).length = N) := by unfold Hid; rw [List.length_append, List.length_append, hla.out, hlb.out, hlc.out, h]
  clear h
  have hJ2 : Hid ([la, lb, lc].flatten = la ++ lb ++ lc) := by unfold Hid; simp
  have hJ : Hid ([la, lb, lc].flatten.length = N) := by unfold Hid; rw [hJ2.out, hlN.out]
  have hTk : Hid ((la ++ lb ++ lc).take na = la) := by unfold Hid; rw [List.append_assoc, ← hla.out, List.take_left]
  have hDr : Hid ((la ++ lb ++ lc).drop na = lb ++ lc) := by unfold Hid; rw [List.append_assoc, ← hla.out, List.drop_left]
  have hStr : Hid (strOf (la ++ lb ++ lc) = strOf la ++ strOf lb ++ strOf lc) := by unfold Hid; rw [strOf_append, strOf_append]
  obtain ⟨m, hm⟩ : ∃ m, k.tmod 64 = m := ⟨_, rfl⟩
  have hm1 : -64 < m := by have := Int.lt_tmod_of_pos k (b := 64) (by decide); omega
  have hm2 : m < 64 := by have := Int.tmod_lt_of_pos k (b := 64) (by decide); omega
  obtain ⟨K, hKr, hK1, hK64, hK⟩ : ∃ K : Nat, Hid ((0 ≤ m → 1 + m = (K : Int)) ∧ (m < 0 → 2 - (1 + m) = (K : Int))) ∧ 1 ≤ K ∧ K ≤ 64 ∧ Hid True := by
    by_cases h : 0 ≤ m
    · exact ⟨(1 + m).toNat, ⟨fun _ => by omega, fun h2 => by omega⟩, by omega, by omega, trivial⟩
    · exact ⟨(2 - (1 + m)).toNat, ⟨fun h2 => by omega, fun _ => by omega⟩, by omega, by omega, trivial⟩
  by_cases hm0 : 0 ≤ m
  all_goals
    first
      | (have hKs := Lib.hid (hKr.out.1 hm0))
      | (have hKs := Lib.hid (hKr.out.2 (by omega)))
    go_enter Try.func12, Try.ntmps12
    go_wp2_with fail
    refine (join_any _ _ _ [la, lb, lc] _ (lists_made3 XA.out XB.out XC.out) N hJ.out (by omega)).mono ?_
    rintro e w1 ⟨A1, c1, rfl, hv, hb⟩
    have hbx : Below w.heap.size w w1 := below_via (by go_grown) hb (by first | (simp; done) | (simp; omega))
    have XA := Lib.hid (XA.out.stays hbx)
    have XB := Lib.hid (XB.out.stays hbx)
    have XC := Lib.hid (XC.out.stays hbx)
    have AL := Lib.hid (show Bytes _ _ _ _ (la ++ lb ++ lc) from (by rw [← hJ2.out]; exact own_rd hv))
    have R1 := Lib.hid hbx
    have hs1 := R1.out.size
    clear hb hbx 
    clear hv
    go_wp2_with fail
    refine (cut_ok _ _ _ _ na _ AL.out (by omega) (by omega)).mono ?_
    rintro e w2 ⟨A2, c2, A3, c3, rfl, hv, hv2, hb⟩
    have hbx : Below w1.heap.size w1 w2 := below_via (by go_grown) hb (by first | (simp; done) | (simp; omega))
    have XA := Lib.hid (XA.out.stays hbx)
    have XB := Lib.hid (XB.out.stays hbx)
    have XC := Lib.hid (XC.out.stays hbx)
    have AL := Lib.hid (AL.out.stays hbx)
    have H1 := Lib.hid (show Bytes _ _ _ _ la from (by rw [← hTk.out]; exact hv))
    have T1 := Lib.hid (show Bytes _ _ _ _ (lb ++ lc) from (by rw [← hDr.out]; exact hv2))
    have R2 := Lib.hid (R1.out.trans (hbx.mono hs1))
    have hs2 := R2.out.size
    clear hb hbx 
    clear R1
    clear hv hv2
    go_wp2_with fail
    refine (refSame_true H1.out XA.out rfl).mono ?_
    rintro e w3 ⟨rfl, rfl⟩
    go_wp2_with fail
    refine (join_any _ _ _ [la, lb ++ lc] _ (lists_made2 H1.out T1.out) N (by rw [← hJ.out]; simp) (by omega)).mono ?_
    rintro e w3 ⟨A4, c4, rfl, hv, hb⟩
    have hbx : Below w2.heap.size w2 w3 := below_via (by go_grown) hb (by first | (simp; done) | (simp; omega))
    have XA := Lib.hid (XA.out.stays hbx)
    have XB := Lib.hid (XB.out.stays hbx)
    have XC := Lib.hid (XC.out.stays hbx)
    have AL := Lib.hid (AL.out.stays hbx)
    have H1 := Lib.hid (H1.out.stays hbx)
    have T1 := Lib.hid (T1.out.stays hbx)
    have J2 := Lib.hid (show Bytes _ _ _ _ (la ++ lb ++ lc) from (by have := own_rd hv; simpa [Bytes] using this))
    have R3 := Lib.hid (R2.out.trans (hbx.mono hs2))
    have hs3 := R3.out.size
    clear hb hbx 
    clear R2
    clear hv
    go_wp2_with fail
    refine (refSame_true J2.out AL.out rfl).mono ?_
    rintro e w4 ⟨rfl, rfl⟩
    clear J2
    go_wp2_with fail
    refine (join_any _ _ _ [lb, lc] _ (lists_made2 XB.out XC.out) (nb + nc) (by rw [List.flatten_cons, List.flatten_cons, List.flatten_nil, List.append_nil, List.length_append, XB.out.len, XC.out.len]) (by omega)).mono ?_
    rintro e w4 ⟨A5, c5, rfl, hv, hb⟩
    have hbx : Below w3.heap.size w3 w4 := below_via (by go_grown) hb (by first | (simp; done) | (simp; omega))
    have XA := Lib.hid (XA.out.stays hbx)
    have XB := Lib.hid (XB.out.stays hbx)
    have XC := Lib.hid (XC.out.stays hbx)
    have AL := Lib.hid (AL.out.stays hbx)
    have H1 := Lib.hid (H1.out.stays hbx)
    have T1 := Lib.hid (T1.out.stays hbx)
    have J3 := Lib.hid (show Bytes _ _ _ _ (lb ++ lc) from (by have := own_rd hv; simpa [Bytes] using this))
    have R4 := Lib.hid (R3.out.trans (hbx.mono hs3))
    have hs4 := R4.out.size
    clear hb hbx 
    clear R3
    clear hv
    have s1 := conv_str (P := Try.prog) AL.out 23 9 5 Try.underlying23 Try.underlying5 Try.underlying9
    have s2 := conv_str (P := Try.prog) XA.out 23 9 5 Try.underlying23 Try.underlying5 Try.underlying9
    have s3 := conv_str (P := Try.prog) XB.out 23 9 5 Try.underlying23 Try.underlying5 Try.underlying9
    have s4 := conv_str (P := Try.prog) XC.out 23 9 5 Try.underlying23 Try.underlying5 Try.underlying9
    rw [hStr.out] at s1
    have y1 : (strOf la).size = na := by rw [strOf_size, hla.out]
    have y2 : (strOf lb).size = nb := by rw [strOf_size, hlb.out]
    have y3 : (strOf lc).size = nc := by rw [strOf_size, hlc.out]
    have y4 : na + nb ≤ 9223372036854775807 := by omega
    have y5 : na + nb + nc ≤ 9223372036854775807 := by omega
    go_wp2_with fail
    refine (octSame_true T1.out J3.out).mono ?_
    rintro e w5 ⟨rfl, rfl⟩
    have hK2 := hK.out
    go_upto_region 10 with fail
    clear s1 s2 s3 s4 y1 y2 y3
    clear T1 J3 H1
    go_wp2_with fail
    rw [hKs.out]
    refine (pad_in _ _ _ _ K _ AL.out (by omega) hK1 hK64).mono ?_
    rintro e w5 ⟨A6, c6, rfl, hv, hb⟩
    have hbx : Below w4.heap.size w4 w5 := below_via (by go_grown) hb (by first | (simp; done) | (simp; omega))
    have XA := Lib.hid (XA.out.stays hbx)
    have XB := Lib.hid (XB.out.stays hbx)
    have XC := Lib.hid (XC.out.stays hbx)
    have AL := Lib.hid (AL.out.stays hbx)
    have PB := Lib.hid (show Bytes _ _ _ _ (la ++ lb ++ lc ++ List.replicate (padZ N K) 0) from hv)
    have R5 := Lib.hid (R4.out.trans (hbx.mono hs4))
    have hs5 := R5.out.size
    clear hb hbx 
    clear R4
    clear hv
    have hzl := padZ_lt N K (by omega)
    have hz0 := (padZ_at N K (padZ N K) (by omega) (Nat.le_refl _)).2 rfl
    obtain ⟨Z, hZ⟩ : ∃ x, padZ N K = x := ⟨_, rfl⟩
    rw [hZ] at PB hzl hz0 ⊢
    clear hZ
    have htm : ((N : Int) + (Z : Int)).tmod (K : Int) = 0 := by
      rw [Int.tmod_eq_emod_of_nonneg (by omega), ← Int.natCast_add, ← Int.natCast_emod, hz0]; rfl
    have hem : ((N : Int) + (Z : Int)) % (K : Int) = 0 := by
      rw [← Int.natCast_add, ← Int.natCast_emod, hz0]; rfl
    have qp1 := PB.out.le
    have qp2 := PB.out.cap
    have qp3 : N ≤ c6 := by omega
    have hcut := PB.out.cut0 N (by omega)
    rw [List.take_append_of_le_length (by rw [hlN.out]; exact Nat.le_refl _), List.take_of_length_le (by rw [hlN.out]; exact Nat.le_refl _)] at hcut
    have P2 := Lib.hid hcut
    clear hcut
    go_wp2_with fail
    refine (refSame_true P2.out AL.out rfl).mono ?_
    rintro e w6 ⟨rfl, rfl⟩
    go_wp2
    have HZ : Hid (∀ j, N ≤ j → byteAt (la ++ lb ++ lc ++ List.replicate Z 0) j = 0) := by
      intro j hj
      unfold byteAt
      rw [List.getD, List.getElem?_append_right (by rw [hlN.out]; exact hj), List.getElem?_replicate]
      split <;> rfl
    clear XA XB XC AL P2
    generalize la ++ lb ++ lc ++ List.replicate Z 0 = PL at *
    go_loop [14] (fun i => ∃ j : Nat, N ≤ j ∧ j ≤ N + Z ∧ i = .int .i64 j) (fun i => N + Z - (intOf i).toNat)
    case atStart => exact ⟨N, Nat.le_refl _, by omega, rfl⟩
    case round =>
      obtain ⟨j, hj0, hj, rfl⟩ := hrel
      by_cases hjk : j < N + Z
      · obtain ⟨b, off, rfl, hc⟩ := PB.out.at_ hjk
        rw [HZ.out j hj0] at hc
        have hji : (j : Int) < (N : Int) + (Z : Int) := by omega
        go_wp2
        go_round
        case rel => exact ⟨j + 1, by omega, by omega, by go_num⟩
        case measure => simp [intOf]; omega
      · have hji : ¬ (j : Int) < (N : Int) + (Z : Int) := by omega
        go_wp2_with fail
        refine (octKnown _).mono ?_
        rintro e wz ⟨rfl, hb⟩
        have RZ := R5.out.trans (hb.mono hs5)
        clear hb
        go_wp2
        go_ret
        exact ⟨rfl, RZ⟩
end Go.Proofs.Ytofadjcphaehcaa
