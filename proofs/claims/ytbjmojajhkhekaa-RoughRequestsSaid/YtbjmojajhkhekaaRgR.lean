/- RoughRequests: the walk. -/
import Derived.Test.YtbjmojajhkhekaaRgJ
import Derived.Test.YtbjmojajhkhekaaRgN
import Derived.Test.YtbjmojajhkhekaaFlipK
namespace Go.Proofs.Ytbjmojajhkhekaa
open Go Go.RowKit

theorem random32 (v : Int) : ∃ N : List UInt8, N.length = 32 ∧ ∀ w : World, Calls Try.prog 40 #[.int .i64 v, .int .i64 32] w fun e w' => ∃ A c, e = .returned (.slice A 32 c) ∧ Bytes w' A 32 c N ∧ Fresh w.heap.size A ∧ Below w.heap.size w w' := by
  refine ⟨(rndL (IntKind.u64.wrap v).toNat).take 32, ?_, fun w => random_any v 32 (Nat.le_refl _) w⟩
  rw [List.length_take]
  unfold rndL
  rw [sumL_length]
  rfl
/-- What Nonce says about a changed request. -/
def ChgIs (N : List UInt8) (k : Nat) (x : UInt8) : Prop :=
  (16 ≤ k ∧ k < 48 ∧ ∃ M, nncR ((RQ N).set k x) = (M, 0) ∧ ¬ M = N) ∨ (k < 16 ∧ ∃ M er, nncR ((RQ N).set k x) = (M, er) ∧ ¬ er = 0) ∨ (48 ≤ k ∧ ∃ M er, nncR ((RQ N).set k x) = (M, er) ∧ ¬ er = 0)
theorem chg_is {N : List UInt8} (h : N.length = 32) {k : Nat} {x : UInt8} (hk : k < 2048) (hx : (RQ N)[k]? ≠ some x) : ChgIs N k x := by
  by_cases h1 : 16 ≤ k ∧ k < 48
  · refine .inl ⟨h1.1, h1.2, N.set (k - 16) x, ?_, ?_⟩
    · rw [rq_set_in h x h1.1 h1.2]
      exact nncR_RQ (by rw [List.length_set, h])
    · intro e
      have e1 := rq_set_in h x h1.1 h1.2
      rw [e] at e1
      apply hx
      rw [← e1, List.getElem?_set_self (by have := RQ_len h; omega)]
  · have h2 := rq_set_out h x hk hx h1
    by_cases h3 : k < 16
    · exact .inr (.inl ⟨h3, _, _, rfl, h2⟩)
    · exact .inr (.inr ⟨by omega, _, _, rfl, h2⟩)
set_option maxRecDepth 100000 in
set_option maxHeartbeats 4000000 in
theorem roughRequests_walk (v at' by' : Int) (A3 : Option Addr) (n3 c3 : Nat) (lo : List UInt8) (w : World) (ho : Bytes w A3 n3 c3 lo) :
    Calls Try.prog 10 #[.int .i64 v, .int .i64 at', .int .i64 by', .slice A3 n3 c3] w fun e w' => e = .returned (.bool true) ∧ Below w.heap.size w w' := by
  have VO := Lib.hid ho
  have q3 := ho.le
  have q4 := ho.cap
  have HOL := Lib.hid ho.len
  clear ho
  obtain ⟨N, hN, CR⟩ := random32 v
  have HCR := Lib.hid CR
  obtain ⟨k, hk⟩ : ∃ k : Nat, at' % 2048 = (k : Int) := ⟨(at' % 2048).toNat, by omega⟩
  have hk2 : k < 2048 := by omega
  obtain ⟨x, hx, CF⟩ := flip_set (RQ N) 2048 k (k : Int) by' (RQ_len hN) (by omega) hk2 (by decide)
  have HCF := Lib.hid CF
  have HCH := Lib.hid (chg_is hN hk2 hx)
  have HE1 := Lib.hid (reqR_32 hN)
  have HE2 := Lib.hid (nncR_RQ hN)
  have HK := Lib.hid hk
  have HRL := Lib.hid (RQ_len hN)
  have HNL := Lib.hid hN
  clear CR CF hx hk hN
  obtain ⟨R, hR⟩ : ∃ R, RQ N = R := ⟨_, rfl⟩
  rw [hR] at HCF HE1 HE2 HRL
  have HR := Lib.hid hR
  clear hR
  go_enter Try.func10, Try.ntmps10
  go_wp2_with fail
  refine (HCR.out _).mono ?_
  rintro e y1 ⟨NA, nc, rfl, h1, _, hb⟩
  have hbx : Below w.heap.size w y1 := below_via (by go_grown) hb (by first | (simp; done) | (simp; omega))
  have VO := Lib.hid (VO.out.stays hbx)
  have VN := Lib.hid h1
  have R2 := Lib.hid hbx
  have hz_y1 := R2.out.size
  have q5 := h1.cap
  have q6 := h1.2.1
  clear hb hbx h1
  go_wp2_with fail
  refine (request_any _ _ _ _ _ VN.out).mono ?_
  rintro e y3 ⟨BA, bn, bc, rfl, h1, hb⟩
  have hbx : Below y1.heap.size y1 y3 := below_via (by go_grown) hb (by first | (simp; done) | (simp; omega))
  have VO := Lib.hid (VO.out.stays hbx)
  have VN := Lib.hid (VN.out.stays hbx)
  rw [HE1.out] at h1 ⊢
  have hbn : bn = 2048 := by have := h1.len; rw [HRL.out] at this; omega
  subst hbn
  have VB := Lib.hid h1
  have R4 := Lib.hid (R2.out.trans (hbx.mono hz_y1))
  have hz_y3 := R4.out.size
  have q7 := h1.cap
  have q8 := h1.2.1
  clear hb hbx h1 R2 hz_y1
  go_wp2_with fail
  refine (nonce_any _ _ _ _ _ VB.out).mono ?_
  rintro e y5 ⟨MA, mn, mc, rfl, h1, hb⟩
  have hbx : Below y3.heap.size y3 y5 := below_via (by go_grown) hb (by first | (simp; done) | (simp; omega))
  have VO := Lib.hid (VO.out.stays hbx)
  have VN := Lib.hid (VN.out.stays hbx)
  have VB := Lib.hid (VB.out.stays hbx)
  rw [HE2.out] at h1 ⊢
  have VM := Lib.hid h1
  have R6 := Lib.hid (R4.out.trans (hbx.mono hz_y3))
  have hz_y5 := R6.out.size
  clear hb hbx h1 R4 hz_y3
  go_wp2_with fail
  refine (refSame_true VM.out VN.out rfl).mono ?_
  rintro e q_ ⟨rfl, rfl⟩
  clear VM
  go_wp2_with fail
  refine (within_n at' 2048 (by decide) (by decide) _).mono ?_
  rintro e q_ ⟨rfl, hq_⟩
  have hq2_ := hq_.symm
  clear hq_
  subst hq2_
  have hkk : at' % ((2048 : Nat) : Int) = (k : Int) := HK.out
  rw [hkk]
  clear hkk
  go_wp2_with fail
  refine (HCF.out _ _ _ VB.out).mono ?_
  rintro e y7 ⟨FA, fc, rfl, h1, _, hb⟩
  have hbx : Below y5.heap.size y5 y7 := below_via (by go_grown) hb (by first | (simp; done) | (simp; omega))
  have VO := Lib.hid (VO.out.stays hbx)
  have VN := Lib.hid (VN.out.stays hbx)
  have VF := Lib.hid h1
  have R8 := Lib.hid (R6.out.trans (hbx.mono hz_y5))
  have hz_y7 := R8.out.size
  have q9 := h1.cap
  have q10 := h1.2.1
  clear hb hbx h1 R6 hz_y5
  go_wp2_with fail
  refine (nonce_any _ _ _ _ _ VF.out).mono ?_
  rintro e y9 ⟨XA, xn, xc, rfl, h1, hb⟩
  have hbx : Below y7.heap.size y7 y9 := below_via (by go_grown) hb (by first | (simp; done) | (simp; omega))
  have VO := Lib.hid (VO.out.stays hbx)
  have VN := Lib.hid (VN.out.stays hbx)
  have VX := Lib.hid h1
  have R10 := Lib.hid (R8.out.trans (hbx.mono hz_y7))
  have hz_y9 := R10.out.size
  clear hb hbx h1 R8 hz_y7 VF VB
  have HCH2 := HCH.out
  unfold ChgIs at HCH2
  rw [HR.out] at HCH2
  rcases HCH2 with ⟨k1, k2, M, hNC, hMN⟩ | ⟨k1, M, er, hNC, her⟩ | ⟨k1, M, er, hNC, her⟩
  ·
    have i1 : (16 : Int) ≤ (k : Int) := by omega
    have i2 : (k : Int) < 48 := by omega
    have HNC := Lib.hid hNC
    have HMN := Lib.hid hMN
    clear hNC hMN
    rw [HNC.out] at VX ⊢
    go_wp2_with fail
    refine (refSame_false VX.out VN.out HMN.out).mono ?_
    rintro e q_ ⟨rfl, rfl⟩
    clear VX VN
    by_cases hbig : 100 < n3
    ·
      have t1 : (100 : Int) < (n3 : Int) := by omega
      go_wp2_with fail
      refine (rgKnown _).mono ?_
      rintro e y11 ⟨rfl, hb⟩
      have hbx : Below y9.heap.size y9 y11 := below_via (by go_grown) hb (by first | (simp; done) | (simp; omega))
      have R12 := Lib.hid (R10.out.trans (hbx.mono hz_y9))
      clear hb hbx
      go_wp2
      go_ret
      exact ⟨rfl, R12.out⟩
    have t1 : ¬ (100 : Int) < (n3 : Int) := by omega
    by_cases h32 : n3 = 32
    ·
      have t2 : (n3 : Int) = 32 := by omega
      have t3 : ((n3 : Int) == 32) = true := by simpa using t2
      clear t2
      subst h32
      go_wp2_with fail
      refine (rgKnown _).mono ?_
      rintro e y11 ⟨rfl, hb⟩
      have hbx : Below y9.heap.size y9 y11 := below_via (by go_grown) hb (by first | (simp; done) | (simp; omega))
      have R12 := Lib.hid (R10.out.trans (hbx.mono hz_y9))
      clear hb hbx
      go_wp2
      go_ret
      exact ⟨rfl, R12.out⟩
    have t2 : ¬ (n3 : Int) = 32 := by omega
    have t3 : ((n3 : Int) == 32) = false := by simpa using t2
    have HOD := Lib.hid (reqR_odd (n := lo) (by rw [HOL.out]; exact h32))
    go_wp2_with fail
    refine (request_any _ _ _ _ _ VO.out).mono ?_
    rintro e y11 ⟨OA, on, oc, rfl, h1, hb⟩
    have hbx : Below y9.heap.size y9 y11 := below_via (by go_grown) hb (by first | (simp; done) | (simp; omega))
    rw [HOD.out] at h1 ⊢
    have R12 := Lib.hid (R10.out.trans (hbx.mono hz_y9))
    have hz_y11 := R12.out.size
    clear hb hbx h1 R10 hz_y9
    go_wp2_with fail
    refine (rgKnown _).mono ?_
    rintro e y13 ⟨rfl, hb⟩
    have hbx : Below y11.heap.size y11 y13 := below_via (by go_grown) hb (by first | (simp; done) | (simp; omega))
    have R14 := Lib.hid (R12.out.trans (hbx.mono hz_y11))
    clear hb hbx
    go_wp2
    go_ret
    exact ⟨rfl, R14.out⟩
  ·
    have i1 : ¬ (16 : Int) ≤ (k : Int) := by omega

    have HNC := Lib.hid hNC
    have i3 : (er == 0) = false := by simpa using her
    clear hNC her
    rw [HNC.out] at VX ⊢
    clear VX VN
    by_cases hbig : 100 < n3
    ·
      have t1 : (100 : Int) < (n3 : Int) := by omega
      go_wp2_with fail
      refine (rgKnown _).mono ?_
      rintro e y11 ⟨rfl, hb⟩
      have hbx : Below y9.heap.size y9 y11 := below_via (by go_grown) hb (by first | (simp; done) | (simp; omega))
      have R12 := Lib.hid (R10.out.trans (hbx.mono hz_y9))
      clear hb hbx
      go_wp2
      go_ret
      exact ⟨rfl, R12.out⟩
    have t1 : ¬ (100 : Int) < (n3 : Int) := by omega
    by_cases h32 : n3 = 32
    ·
      have t2 : (n3 : Int) = 32 := by omega
      have t3 : ((n3 : Int) == 32) = true := by simpa using t2
      clear t2
      subst h32
      go_wp2_with fail
      refine (rgKnown _).mono ?_
      rintro e y11 ⟨rfl, hb⟩
      have hbx : Below y9.heap.size y9 y11 := below_via (by go_grown) hb (by first | (simp; done) | (simp; omega))
      have R12 := Lib.hid (R10.out.trans (hbx.mono hz_y9))
      clear hb hbx
      go_wp2
      go_ret
      exact ⟨rfl, R12.out⟩
    have t2 : ¬ (n3 : Int) = 32 := by omega
    have t3 : ((n3 : Int) == 32) = false := by simpa using t2
    have HOD := Lib.hid (reqR_odd (n := lo) (by rw [HOL.out]; exact h32))
    go_wp2_with fail
    refine (request_any _ _ _ _ _ VO.out).mono ?_
    rintro e y11 ⟨OA, on, oc, rfl, h1, hb⟩
    have hbx : Below y9.heap.size y9 y11 := below_via (by go_grown) hb (by first | (simp; done) | (simp; omega))
    rw [HOD.out] at h1 ⊢
    have R12 := Lib.hid (R10.out.trans (hbx.mono hz_y9))
    have hz_y11 := R12.out.size
    clear hb hbx h1 R10 hz_y9
    go_wp2_with fail
    refine (rgKnown _).mono ?_
    rintro e y13 ⟨rfl, hb⟩
    have hbx : Below y11.heap.size y11 y13 := below_via (by go_grown) hb (by first | (simp; done) | (simp; omega))
    have R14 := Lib.hid (R12.out.trans (hbx.mono hz_y11))
    clear hb hbx
    go_wp2
    go_ret
    exact ⟨rfl, R14.out⟩
  ·
    have i1 : (16 : Int) ≤ (k : Int) := by omega
    have i2 : ¬ (k : Int) < 48 := by omega

    have HNC := Lib.hid hNC
    have i3 : (er == 0) = false := by simpa using her
    clear hNC her
    rw [HNC.out] at VX ⊢
    clear VX VN
    by_cases hbig : 100 < n3
    ·
      have t1 : (100 : Int) < (n3 : Int) := by omega
      go_wp2_with fail
      refine (rgKnown _).mono ?_
      rintro e y11 ⟨rfl, hb⟩
      have hbx : Below y9.heap.size y9 y11 := below_via (by go_grown) hb (by first | (simp; done) | (simp; omega))
      have R12 := Lib.hid (R10.out.trans (hbx.mono hz_y9))
      clear hb hbx
      go_wp2
      go_ret
      exact ⟨rfl, R12.out⟩
    have t1 : ¬ (100 : Int) < (n3 : Int) := by omega
    by_cases h32 : n3 = 32
    ·
      have t2 : (n3 : Int) = 32 := by omega
      have t3 : ((n3 : Int) == 32) = true := by simpa using t2
      clear t2
      subst h32
      go_wp2_with fail
      refine (rgKnown _).mono ?_
      rintro e y11 ⟨rfl, hb⟩
      have hbx : Below y9.heap.size y9 y11 := below_via (by go_grown) hb (by first | (simp; done) | (simp; omega))
      have R12 := Lib.hid (R10.out.trans (hbx.mono hz_y9))
      clear hb hbx
      go_wp2
      go_ret
      exact ⟨rfl, R12.out⟩
    have t2 : ¬ (n3 : Int) = 32 := by omega
    have t3 : ((n3 : Int) == 32) = false := by simpa using t2
    have HOD := Lib.hid (reqR_odd (n := lo) (by rw [HOL.out]; exact h32))
    go_wp2_with fail
    refine (request_any _ _ _ _ _ VO.out).mono ?_
    rintro e y11 ⟨OA, on, oc, rfl, h1, hb⟩
    have hbx : Below y9.heap.size y9 y11 := below_via (by go_grown) hb (by first | (simp; done) | (simp; omega))
    rw [HOD.out] at h1 ⊢
    have R12 := Lib.hid (R10.out.trans (hbx.mono hz_y9))
    have hz_y11 := R12.out.size
    clear hb hbx h1 R10 hz_y9
    go_wp2_with fail
    refine (rgKnown _).mono ?_
    rintro e y13 ⟨rfl, hb⟩
    have hbx : Below y11.heap.size y11 y13 := below_via (by go_grown) hb (by first | (simp; done) | (simp; omega))
    have R14 := Lib.hid (R12.out.trans (hbx.mono hz_y11))
    clear hb hbx
    go_wp2
    go_ret
    exact ⟨rfl, R14.out⟩
end Go.Proofs.Ytbjmojajhkhekaa
