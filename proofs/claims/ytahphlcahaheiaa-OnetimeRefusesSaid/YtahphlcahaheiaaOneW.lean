/- OnetimeChains, OnetimeRecovers: the walks. -/
import Derived.Test.YtahphlcahaheiaaOneF
import Derived.Test.YtahphlcahaheiaaWChg
import Derived.Test.YtahphlcahaheiaaSameL
namespace Go.Proofs.Ytahphlcahaheiaa
open Go.RowKit

theorem goodL_sign (seed : List UInt8) (i : Nat) (d : List UInt8) : goodL (signL seed i d) := fun j hj => signTo_len16 seed i (digN d) j 35 hj
set_option maxRecDepth 100000 in
set_option maxHeartbeats 4000000 in
theorem onetimeRecovers_walk (a i d : Int) (w : World) :
    Calls Try.prog 7 #[.int .i64 a, .int .i64 i, .int .i64 d] w fun e w' => e = .returned (.bool true) ∧ Below w.heap.size w w' := by
  obtain ⟨x, hx, hx2⟩ : ∃ x : Nat, a % 1000 = (x : Int) ∧ x < 1000 := ⟨(a % 1000).toNat, by omega, by omega⟩
  have Hx := Lib.hid hx
  clear hx
  obtain ⟨y, hy, hy2⟩ : ∃ y : Nat, i % 2147483648 = (y : Int) ∧ y < 2147483648 := ⟨(i % 2147483648).toNat, by omega, by omega⟩
  have Hy := Lib.hid hy
  clear hy
  obtain ⟨z, hz, hz2⟩ : ∃ z : Nat, d % 100000 = (z : Int) ∧ z < 100000 := ⟨(d % 100000).toNat, by omega, by omega⟩
  have Hz := Lib.hid hz
  clear hz
  go_enter Try.func7, Try.ntmps7
  go_wp2_with fail
  refine (within_any a 1000 (by decide) (by decide) _).mono ?_
  rintro e w1 ⟨rfl, rfl⟩
  rw [Hx.out]
  go_wp2_with fail
  refine (key_any x _ (by omega)).mono ?_
  rintro e w1 ⟨AK, cK, rfl, hv, hb⟩
  have hbx : Below w.heap.size w w1 := below_via (by go_grown) hb (by first | (simp; done) | (simp; omega))
  have KB := Lib.hid hv
  have R1 := Lib.hid hbx
  have hs1 := R1.out.size
  clear hb hbx hv
  go_wp2_with fail
  refine (within_any i 2147483648 (by decide) (by decide) _).mono ?_
  rintro e w2 ⟨rfl, rfl⟩
  rw [Hy.out]
  go_wp2_with fail
  refine (within_any d 100000 (by decide) (by decide) _).mono ?_
  rintro e w2 ⟨rfl, rfl⟩
  rw [Hz.out]
  go_wp2_with fail
  refine (wbytes_any z 16 _ (by omega) (by omega) (by omega)).mono ?_
  rintro e w2 ⟨AD, cD, rfl, hv, hb⟩
  have hbx : Below w1.heap.size w1 w2 := below_via (by go_grown) hb (by first | (simp; done) | (simp; omega))
  have KB := Lib.hid (KB.out.stays hbx)
  have DB := Lib.hid hv
  have R2 := Lib.hid (R1.out.trans (hbx.mono hs1))
  have hs2 := R2.out.size
  clear hb hbx hv
  clear R1
  go_wp2_with fail
  refine (public_ok _ _ _ y _ KB.out (by omega)).mono ?_
  rintro e w3 ⟨AP, cP, rfl, hv, hf, hb⟩
  have hbx : Below w2.heap.size w2 w3 := below_via (by go_grown) hb (by first | (simp; done) | (simp; omega))
  have KB := Lib.hid (KB.out.stays hbx)
  have DB := Lib.hid (DB.out.stays hbx)
  have PB := Lib.hid hv
  have R3 := Lib.hid (R2.out.trans (hbx.mono hs2))
  have hs3 := R3.out.size
  clear hb hbx hv
  clear R2
  clear hf
  go_wp2_with fail
  refine (sign_ok _ _ _ _ y _ _ _ KB.out DB.out (by omega)).mono ?_
  rintro e w4 ⟨AS, cS, rfl, hv, hb⟩
  have hbx : Below w3.heap.size w3 w4 := below_via (by go_grown) hb (by first | (simp; done) | (simp; omega))
  have KB := Lib.hid (KB.out.stays hbx)
  have DB := Lib.hid (DB.out.stays hbx)
  have PB := Lib.hid (PB.out.stays hbx)
  have SB := Lib.hid hv
  have R4 := Lib.hid (R3.out.trans (hbx.mono hs3))
  have hs4 := R4.out.size
  clear hb hbx hv
  clear R3
  go_wp2_with fail
  refine (recover_ok DB.out SB.out (goodL_sign _ _ _)).mono ?_
  rintro e w5 ⟨AQ, cQ, rfl, hv, hb⟩
  have hbx : Below w4.heap.size w4 w5 := below_via (by go_grown) hb (by first | (simp; done) | (simp; omega))
  have KB := Lib.hid (KB.out.stays hbx)
  have DB := Lib.hid (DB.out.stays hbx)
  have PB := Lib.hid (PB.out.stays hbx)
  have SB := Lib.hid (SB.out.stays hbx)
  have QB := Lib.hid hv
  have R5 := Lib.hid (R4.out.trans (hbx.mono hs4))
  have hs5 := R5.out.size
  clear hb hbx hv
  clear R4
  go_wp2_with fail
  refine (refPublic_ok _ _ _ y _ KB.out (by omega)).mono ?_
  rintro e w6 ⟨AR, cR, rfl, hv, hf, hb⟩
  have hbx : Below w5.heap.size w5 w6 := below_via (by go_grown) hb (by first | (simp; done) | (simp; omega))
  have KB := Lib.hid (KB.out.stays hbx)
  have DB := Lib.hid (DB.out.stays hbx)
  have PB := Lib.hid (PB.out.stays hbx)
  have SB := Lib.hid (SB.out.stays hbx)
  have QB := Lib.hid (QB.out.stays hbx)
  have RB := Lib.hid hv
  have R6 := Lib.hid (R5.out.trans (hbx.mono hs5))
  have hs6 := R6.out.size
  clear hb hbx hv
  clear R5
  clear hf
  go_wp2_with fail
  refine (oneKnown _).mono ?_
  rintro e w7 ⟨rfl, hb⟩
  have hbx : Below w6.heap.size w6 w7 := below_via (by go_grown) hb (by first | (simp; done) | (simp; omega))
  have KB := Lib.hid (KB.out.stays hbx)
  have DB := Lib.hid (DB.out.stays hbx)
  have PB := Lib.hid (PB.out.stays hbx)
  have SB := Lib.hid (SB.out.stays hbx)
  have QB := Lib.hid (QB.out.stays hbx)
  have RB := Lib.hid (RB.out.stays hbx)
  have R7 := Lib.hid (R6.out.trans (hbx.mono hs6))
  have hs7 := R7.out.size
  clear hb hbx 
  clear R6
  go_wp2_with fail
  refine (refSame_true PB.out QB.out (recover_sign _ _ _).symm).mono ?_
  rintro e w8 ⟨rfl, rfl⟩
  go_wp2_with fail
  refine (refSame_true PB.out RB.out rfl).mono ?_
  rintro e w8 ⟨rfl, rfl⟩
  go_wp2
  go_ret
  exact ⟨rfl, R7.out⟩
set_option maxRecDepth 100000 in
set_option maxHeartbeats 4000000 in
theorem onetimeChains_walk (a i d c : Int) (w : World) :
    Calls Try.prog 5 #[.int .i64 a, .int .i64 i, .int .i64 d, .int .i64 c] w fun e w' => e = .returned (.bool true) ∧ Below w.heap.size w w' := by
  obtain ⟨x, hx, hx2⟩ : ∃ x : Nat, a % 1000 = (x : Int) ∧ x < 1000 := ⟨(a % 1000).toNat, by omega, by omega⟩
  have Hx := Lib.hid hx
  clear hx
  obtain ⟨y, hy, hy2⟩ : ∃ y : Nat, i % 1000 = (y : Int) ∧ y < 1000 := ⟨(i % 1000).toNat, by omega, by omega⟩
  have Hy := Lib.hid hy
  clear hy
  obtain ⟨k, hk, hk2⟩ : ∃ k : Nat, c % 35 = (k : Int) ∧ k < 35 := ⟨(c % 35).toNat, by omega, by omega⟩
  have Hk := Lib.hid hk
  clear hk
  obtain ⟨z, hz, hz2⟩ : ∃ z : Nat, d % 100000 = (z : Int) ∧ z < 100000 := ⟨(d % 100000).toNat, by omega, by omega⟩
  have Hz := Lib.hid hz
  clear hz
  go_enter Try.func5, Try.ntmps5
  go_wp2_with fail
  refine (within_any a 1000 (by decide) (by decide) _).mono ?_
  rintro e w1 ⟨rfl, rfl⟩
  rw [Hx.out]
  go_wp2_with fail
  refine (key_any x _ (by omega)).mono ?_
  rintro e w1 ⟨AK, cK, rfl, hv, hb⟩
  have hbx : Below w.heap.size w w1 := below_via (by go_grown) hb (by first | (simp; done) | (simp; omega))
  have KB := Lib.hid hv
  have R1 := Lib.hid hbx
  have hs1 := R1.out.size
  clear hb hbx hv
  go_wp2_with fail
  refine (within_any i 1000 (by decide) (by decide) _).mono ?_
  rintro e w2 ⟨rfl, rfl⟩
  rw [Hy.out]
  go_wp2_with fail
  refine (within_any c 35 (by decide) (by decide) _).mono ?_
  rintro e w2 ⟨rfl, rfl⟩
  rw [Hk.out]
  go_wp2_with fail
  refine (within_any d 100000 (by decide) (by decide) _).mono ?_
  rintro e w2 ⟨rfl, rfl⟩
  rw [Hz.out]
  go_wp2_with fail
  refine (wbytes_any z 16 _ (by omega) (by omega) (by omega)).mono ?_
  rintro e w2 ⟨AD, cD, rfl, hv, hb⟩
  have hbx : Below w1.heap.size w1 w2 := below_via (by go_grown) hb (by first | (simp; done) | (simp; omega))
  have KB := Lib.hid (KB.out.stays hbx)
  have DB := Lib.hid hv
  have R2 := Lib.hid (R1.out.trans (hbx.mono hs1))
  have hs2 := R2.out.size
  clear hb hbx hv
  clear R1
  go_wp2_with fail
  refine (sign_ok _ _ _ _ y _ _ _ KB.out DB.out (by omega)).mono ?_
  rintro e w3 ⟨AS, cS, rfl, hv, hb⟩
  have hbx : Below w2.heap.size w2 w3 := below_via (by go_grown) hb (by first | (simp; done) | (simp; omega))
  have KB := Lib.hid (KB.out.stays hbx)
  have DB := Lib.hid (DB.out.stays hbx)
  have SB := Lib.hid hv
  have R3 := Lib.hid (R2.out.trans (hbx.mono hs2))
  have hs3 := R3.out.size
  clear hb hbx hv
  clear R2
  go_wp2_with fail
  refine (secret_ok _ _ _ y k _ KB.out (by omega) hk2).mono ?_
  rintro e w4 ⟨AX, cX, rfl, hv, hf, hb⟩
  have hbx : Below w3.heap.size w3 w4 := below_via (by go_grown) hb (by first | (simp; done) | (simp; omega))
  have KB := Lib.hid (KB.out.stays hbx)
  have DB := Lib.hid (DB.out.stays hbx)
  have SB := Lib.hid (SB.out.stays hbx)
  have XB := Lib.hid hv
  have R4 := Lib.hid (R3.out.trans (hbx.mono hs3))
  have hs4 := R4.out.size
  clear hb hbx hv
  clear R3
  clear hf
  have LD := Lib.hid DB.out.len
  go_wp2_with fail
  refine (digits_any _ _ _ _ DB.out).mono ?_
  rintro e w5 ⟨AN, cN, rfl, hv, hb⟩
  have hbx : Below w4.heap.size w4 w5 := below_via (by go_grown) hb (by first | (simp; done) | (simp; omega))
  have KB := Lib.hid (KB.out.stays hbx)
  have DB := Lib.hid (DB.out.stays hbx)
  have SB := Lib.hid (SB.out.stays hbx)
  have XB := Lib.hid (XB.out.stays hbx)
  have NB := Lib.hid hv
  have R5 := Lib.hid (R4.out.trans (hbx.mono hs4))
  have hs5 := R5.out.size
  clear hb hbx hv
  clear R4
  obtain ⟨b, off, A1, n1, c1, rfl, hc1, hy1⟩ := SB.out.at_ hk2
  obtain ⟨b2, off2, rfl, hc⟩ := row35 NB.out LD.out
  have hc2 := hc k hk2
  have hd15 := digN_le (wbytesL z 16) k
  have sl1 := SB.out.le
  have sl2 := SB.out.cap
  have nl1 := NB.out.2.1
  have nl2 : cN ≤ 9223372036854775807 := by have := NB.out.2.2.1; unfold maxLen at this; omega
  have HE : Hid (listAt (signL (wbytesL x 32) y (wbytesL z 16)) k = chainL (beginL (wbytesL x 32) y k) (digN (wbytesL z 16) k)) := signTo_at _ _ _ _ _ hk2
  have HY := Lib.hid hy1
  clear hy1 hc KB DB LD SB NB
  have ki0 : (0 : Int) ≤ (k : Int) := by omega
  have ki1 : (k : Int) < 35 := by omega
  generalize digN (wbytesL z 16) k = dd at *
  go_wp2_with fail
  go_region_held3 (fun w' => w'.cell? ⟨b, off + k, none⟩ = some (.slice A1 n1 c1) ∧ w'.cell? ⟨b2, off2 + k, none⟩ = some (.int .i64 dd))
    (go_keep)
    (first
      | (go_at_call 18; refine (oneKnown _).mono ?_; rintro e wk ⟨rfl, hb⟩; have Rk : Below w5.heap.size w5 wk := (below_via (by go_grown) hb (by simp)); have z0 := cell_stays Rk hc1; have z1 := cell_stays Rk hc2)
      | (go_at_call 29; refine (chain16 _ _ _ dd _ (XB.out.stays (below_via (by go_grown) (Below.refl _ _) (by first | exact Nat.le_refl _ | (have := Rk.size; simp; omega)))) (by omega)).mono ?_; rintro e wc ⟨AC, cC, rfl, hv, hf, hb⟩; have Rc : Below w5.heap.size w5 wc := Rk.trans (below_via (by go_grown) hb (by have := Rk.size; simp; omega)); have z2 := cell_stays Rc hc1; have z3 := cell_stays Rc hc2)
      | (go_at_call 19; refine (refSame_true (HY.out.stays Rc) hv HE.out).mono ?_; rintro e wz ⟨rfl, rfl⟩))
  all_goals
    go_wp2
    go_ret
    exact ⟨rfl, R5.out.trans (Rc.mono hs5)⟩
end Go.Proofs.Ytahphlcahaheiaa
