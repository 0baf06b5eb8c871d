/- cmp.Or[int] of two; exact.Compare. -/
import Derived.Test.YtofadjcphaehcaaCmpU
import Derived.Test.YtofadjcphaehcaaBlk
namespace Go.Proofs.Ytofadjcphaehcaa
open Go Go.RowKit

def orI (u v : Int) : Int := if u = 0 then v else u
set_option maxRecDepth 100000 in
set_option maxHeartbeats 4000000 in
theorem or_two (u v : Int) (g : Nat) (E : TypeId) (w : World) (hb : Blk w g E #[.int .i64 u, .int .i64 v]) : Calls Try.prog 98 #[.slice (some ⟨g, 0, none⟩) 2 2] w fun e w' => e = .returned (.int .i64 (orI u v)) ∧ Below w.heap.size w w' := by
  have HB := Lib.hid hb
  clear hb
  go_enter Try.func98, Try.ntmps98
  go_wp2_with fail
  go_loopw [8] (fun i wr => ∃ k : Nat, k ≤ 2 ∧ i = .int .i64 k ∧ Below w.heap.size w wr ∧ Hid (1 ≤ k → u = 0) ∧ Hid (2 ≤ k → v = 0)) (fun i _ => 2 - (intOf i).toNat)
  case atStart => exact ⟨0, by omega, rfl, Below.refl _ _, (fun h => by omega), (fun h => by omega)⟩
  case round =>
    obtain ⟨k, hk, rfl, hbr, hu, hv⟩ := hrel
    have RW := Lib.hid hbr
    have B2 := HB.out.stays hbr
    have c0 := B2.cell 0
    have c1 := B2.cell 1
    clear hbr
    by_cases k0 : k = 0
    · subst k0
      by_cases hu0 : u = 0
      · subst hu0
        go_wp2
        go_roundw
        case rel => exact ⟨1, by omega, by go_num, RW.out, (fun _ => by trivial), (fun h => by omega)⟩
        case measure => simp [intOf]
      · have d1 : (u != 0) = true := by simpa [bne] using hu0
        have HO : Hid (orI u v = u) := by rw [Hid, orI, if_neg hu0]
        go_wp2
        go_ret
        exact ⟨by rw [HO.out]; rfl, RW.out⟩
    · have hu1 := hu.out (by omega)
      by_cases k1 : k = 1
      · subst k1 hu1
        by_cases hv0 : v = 0
        · subst hv0
          go_wp2
          go_roundw
          case rel => exact ⟨2, by omega, by go_num, RW.out, (fun _ => by trivial), (fun _ => by trivial)⟩
          case measure => simp [intOf]
        · have d1 : (v != 0) = true := by simpa [bne] using hv0
          have HO : Hid (orI 0 v = v) := by rw [Hid, orI, if_pos rfl]
          go_wp2
          go_ret
          exact ⟨by rw [HO.out]; rfl, RW.out⟩
      · obtain rfl : k = 2 := by omega
        have hv1 := hv.out (by omega)
        subst hu1 hv1
        go_wp2
        go_ret
        exact ⟨rfl, RW.out⟩
def cmp128 (a b c d : Nat) : Int := orI (cmpI (a * b / 18446744073709551616) (c * d / 18446744073709551616)) (cmpI (a * b % 18446744073709551616) (c * d % 18446744073709551616))
set_option maxRecDepth 100000 in
set_option maxHeartbeats 4000000 in
theorem exactCompare_any (a b c d : Nat) (w : World) (ha : a < 9223372036854775808) (hb : b < 9223372036854775808) (hc : c < 9223372036854775808) (hd : d < 9223372036854775808) : Calls Try.prog 83 #[.int .i64 a, .int .i64 b, .int .i64 c, .int .i64 d] w fun e w' => e = .returned (.int .i64 (cmp128 a b c d)) ∧ Below w.heap.size w w' := by
  have C1 := Lib.hid (mul64_any a b (by omega) (by omega))
  have C2 := Lib.hid (mul64_any c d (by omega) (by omega))
  obtain ⟨h, hh⟩ : ∃ h, a * b / 18446744073709551616 = h := ⟨_, rfl⟩
  obtain ⟨l, hl⟩ : ∃ l, a * b % 18446744073709551616 = l := ⟨_, rfl⟩
  obtain ⟨m, hm⟩ : ∃ m, c * d / 18446744073709551616 = m := ⟨_, rfl⟩
  obtain ⟨n, hn⟩ : ∃ n, c * d % 18446744073709551616 = n := ⟨_, rfl⟩
  have HE : Hid (cmp128 a b c d = orI (cmpI h m) (cmpI l n)) := by rw [Hid, cmp128, hh, hl, hm, hn]
  rw [hh, hl] at C1
  rw [hm, hn] at C2
  have g1 : IntKind.u64.wrap (a : Int) = (a : Int) := modn _ (by omega) (by omega)
  have g2 : IntKind.u64.wrap (b : Int) = (b : Int) := modn _ (by omega) (by omega)
  have g3 : IntKind.u64.wrap (c : Int) = (c : Int) := modn _ (by omega) (by omega)
  have g4 : IntKind.u64.wrap (d : Int) = (d : Int) := modn _ (by omega) (by omega)
  clear hh hl hm hn
  obtain ⟨x, hx⟩ : ∃ x, cmpI h m = x := ⟨_, rfl⟩
  obtain ⟨y, hy⟩ : ∃ y, cmpI l n = y := ⟨_, rfl⟩
  have K1 := Lib.hid (fun w => cmpU_any h m w)
  have K2 := Lib.hid (fun w => cmpU_any l n w)
  rw [hx] at K1 HE
  rw [hy] at K2 HE
  clear hx hy
  go_enter Try.func83, Try.ntmps83
  go_wp2_with fail
  refine (C1.out _).mono ?_
  rintro e q_ ⟨rfl, hq_⟩
  have hq2_ := hq_.symm
  clear hq_
  subst hq2_
  go_wp2_with fail
  refine (C2.out _).mono ?_
  rintro e q_ ⟨rfl, hq_⟩
  have hq2_ := hq_.symm
  clear hq_
  subst hq2_
  go_wp2_with fail
  refine (K1.out _).mono ?_
  rintro e q_ ⟨rfl, rfl⟩
  go_wp2_with fail
  refine (K2.out _).mono ?_
  rintro e q_ ⟨rfl, rfl⟩
  go_wp2_with fail
  refine (or_two x y _ _ _ (Blk.new _ _ _)).mono ?_
  rintro e y1 ⟨rfl, hb⟩
  have R2 := Lib.hid (below_via (by go_grown) hb (by first | (simp; done) | (simp; omega)) : Below w.heap.size w y1)
  clear hb
  go_wp2
  go_ret
  exact ⟨by rw [HE.out]; rfl, R2.out⟩
end Go.Proofs.Ytofadjcphaehcaa
