/- OnetimeActs: the walk. -/
import Derived.Test.YtahphlcahaheiaaOneW
namespace Go.Proofs.Ytahphlcahaheiaa
open Go.RowKit

/-- A list and an error, as a pair of results. -/
def ResB (L : List UInt8) (E : Int) (w : World) (e : Ending) (w' : World) : Prop := ∃ A' m c', e = .returned (.tuple #[.slice A' m c', .int .i64 E]) ∧ Bytes w' A' m c' L ∧ Below w.heap.size w w'
def ResN (L : List Nat) (E : Int) (w : World) (e : Ending) (w' : World) : Prop := ∃ A' m c', e = .returned (.tuple #[.slice A' m c', .int .i64 E]) ∧ Rd w' 1 A' m c' (L.map numV) ∧ m = L.length ∧ Below w.heap.size w w'
def ResL (L : List (List UInt8)) (E : Int) (w : World) (e : Ending) (w' : World) : Prop := ∃ A' m c', e = .returned (.tuple #[.slice A' m c', .int .i64 E]) ∧ Lists w' A' m c' L ∧ m = L.length ∧ Below w.heap.size w w'
theorem digits_both (n : Nat) (d : List UInt8) : ∃ L E, (∀ A c w, Bytes w A n c d → Calls Try.prog 16 #[.slice A n c] w (ResN L E w)) ∧ (∀ A c w, Bytes w A n c d → Calls Try.prog 31 #[.slice A n c] w (ResN L E w)) := by
  by_cases hn : n = 16
  · subst hn
    refine ⟨allD d, 0, fun A c w h => (digits_any A c d w h).mono ?_, fun A c w h => (refDigits_any A c d w h).mono ?_⟩ <;>
    · rintro e w' ⟨A', c', rfl, hr, hb⟩
      exact ⟨_, _, _, rfl, hr, (allD_length d h.len).symm, hb⟩
  · refine ⟨[], 3, fun A c w h => (digits_err A n c w hn).mono ?_, fun A c w h => (refDigits_err A n c w hn).mono ?_⟩ <;>
    · rintro e w' ⟨rfl, rfl⟩
      exact ⟨_, _, _, rfl, Rd.nil _ _ _ (by decide) _, rfl, Below.refl _ _⟩
theorem secret_both (n : Nat) (seed : List UInt8) (i k : Int) : ∃ L E, (∀ A c w, Bytes w A n c seed → Calls Try.prog 28 #[.slice A n c, .int .i64 i, .int .i64 k] w (ResB L E w)) ∧
    (∀ A c w, Bytes w A n c seed → Calls Try.prog 32 #[.slice A n c, .int .i64 i, .int .i64 k] w (ResB L E w)) := by
  by_cases h : validE n i = 0 ∧ 0 ≤ k ∧ k < 35
  · obtain ⟨h0, h1, h2⟩ := h
    obtain ⟨rfl, h3, h4⟩ := validE_zero h0
    obtain ⟨x, rfl⟩ := Int.eq_ofNat_of_zero_le h3
    obtain ⟨y, rfl⟩ := Int.eq_ofNat_of_zero_le h1
    refine ⟨beginL seed x y, 0, fun A c w h => (secret_ok seed A c x y w h (by omega) (by omega)).mono ?_, fun A c w h => (refSecret_ok seed A c x y w h (by omega) (by omega)).mono ?_⟩ <;>
    · rintro e w' ⟨A', c', rfl, hr, _, hb⟩
      exact ⟨_, _, _, rfl, hr, hb⟩
  · have h' : validE n i ≠ 0 ∨ k < 0 ∨ 35 ≤ k := by
      by_cases h0 : validE n i = 0
      · right
        by_cases h1 : k < 0
        · exact .inl h1
        · exact .inr (by by_cases h2 : k < 35; · exact absurd ⟨h0, by omega, h2⟩ h
                         · omega)
      · exact .inl h0
    refine ⟨[], if validE n i ≠ 0 then validE n i else 4, fun A c w _ => (secret_err A n c i k _ w rfl h').mono ?_, fun A c w _ => (refSecret_err A n c i k _ w rfl h').mono ?_⟩ <;>
    · rintro e w' ⟨rfl, hb⟩
      exact ⟨_, _, _, rfl, Bytes.nil _ _ _ (by decide), hb⟩
theorem Lists.none (w : World) : Lists w none 0 0 [] := ⟨[], Rd.nil _ _ _ (by decide) _, rfl, fun i l h => by simp at h⟩
theorem signL_length (seed : List UInt8) (i : Nat) (d : List UInt8) : (signL seed i d).length = 35 := signTo_length _ _ _ _
theorem sign_both (n : Nat) (seed : List UInt8) (i : Int) (m : Nat) (d : List UInt8) : ∃ L E, (∀ A c A2 c2 w, Bytes w A n c seed → Bytes w A2 m c2 d → Calls Try.prog 27 #[.slice A n c, .int .i64 i, .slice A2 m c2] w (ResL L E w)) ∧
    (∀ A c A2 c2 w, Bytes w A n c seed → Bytes w A2 m c2 d → Calls Try.prog 23 #[.slice A n c, .int .i64 i, .slice A2 m c2] w (ResL L E w)) := by
  by_cases h0 : validE n i = 0
  · obtain ⟨rfl, h3, h4⟩ := validE_zero h0
    obtain ⟨x, rfl⟩ := Int.eq_ofNat_of_zero_le h3
    by_cases hm : m = 16
    · subst hm
      refine ⟨signL seed x d, 0, fun A c A2 c2 w h h2 => (sign_ok seed d A c x A2 c2 w h h2 (by omega)).mono ?_, fun A c A2 c2 w h h2 => (refSign_ok seed d A c x A2 c2 w h h2 (by omega)).mono ?_⟩
      · rintro e w' ⟨A', c', rfl, hr, hb⟩
        exact ⟨_, _, _, rfl, hr, (signL_length _ _ _).symm, hb⟩
      · rintro e w' ⟨A', c', rfl, hr, hb⟩
        exact ⟨_, _, _, rfl, hr.lists, (signL_length _ _ _).symm, hb⟩
    · refine ⟨[], 3, fun A c A2 c2 w _ _ => (sign_bad A c x A2 m c2 w (by omega) hm).mono ?_, fun A c A2 c2 w _ _ => (refSign_bad A c x A2 m c2 w (by omega) hm).mono ?_⟩ <;>
      · rintro e w' ⟨rfl, hb⟩
        exact ⟨_, _, _, rfl, Lists.none _, rfl, hb⟩
  · refine ⟨[], validE n i, fun A c A2 c2 w _ _ => (sign_err A n c i _ A2 m c2 w rfl h0).mono ?_, fun A c A2 c2 w _ _ => (refSign_err A n c i _ A2 m c2 w rfl h0).mono ?_⟩ <;>
    · rintro e w' ⟨rfl, hb⟩
      exact ⟨_, _, _, rfl, Lists.none _, rfl, hb⟩
theorem recover_both (n : Nat) (d : List UInt8) (m : Nat) (ls : List (List UInt8)) : ∃ L E, (∀ A c A2 c2 w, Bytes w A n c d → Lists w A2 m c2 ls → Calls Try.prog 24 #[.slice A n c, .slice A2 m c2] w (ResB L E w)) ∧
    (∀ A c A2 c2 w, Bytes w A n c d → Lists w A2 m c2 ls → Calls Try.prog 26 #[.slice A n c, .slice A2 m c2] w (ResB L E w)) := by
  by_cases hn : n = 16
  · subst hn
    by_cases hm : m = 35
    · subst hm
      by_cases hg : goodL ls
      · refine ⟨recoverL d ls, 0, fun A c A2 c2 w h h2 => (recover_ok h h2 hg).mono ?_, fun A c A2 c2 w h h2 => (refRecover_ok h h2 hg).mono ?_⟩ <;>
        · rintro e w' ⟨A', c', rfl, hr, hb⟩
          exact ⟨_, _, _, rfl, hr, hb⟩
      · refine ⟨[], 3, fun A c A2 c2 w h h2 => (recover_ill h h2 hg).mono ?_, fun A c A2 c2 w h h2 => (refRecover_ill h h2 hg).mono ?_⟩ <;>
        · rintro e w' ⟨rfl, hb⟩
          exact ⟨_, _, _, rfl, Bytes.nil _ _ _ (by decide), hb⟩
    · refine ⟨[], 3, fun A c A2 c2 w h _ => (recover_few d A c A2 m c2 w h hm).mono ?_, fun A c A2 c2 w h _ => (refRecover_few d A c A2 m c2 w h hm).mono ?_⟩ <;>
      · rintro e w' ⟨rfl, hb⟩
        exact ⟨_, _, _, rfl, Bytes.nil _ _ _ (by decide), hb⟩
  · refine ⟨[], 3, fun A c A2 c2 w _ _ => (recover_bad A n c A2 m c2 w hn).mono ?_, fun A c A2 c2 w _ _ => (refRecover_bad A n c A2 m c2 w hn).mono ?_⟩ <;>
    · rintro e w' ⟨rfl, hb⟩
      exact ⟨_, _, _, rfl, Bytes.nil _ _ _ (by decide), hb⟩
set_option maxRecDepth 100000 in
set_option maxHeartbeats 4000000 in
theorem onetimeActs_walk (A0 : Option Addr) (n0 c0 : Nat) (seed : List UInt8) (i k : Int) (A3 : Option Addr) (n3 c3 : Nat) (d : List UInt8) (A4 : Option Addr) (n4 c4 : Nat) (ls : List (List UInt8)) (w : World) (h0 : Bytes w A0 n0 c0 seed) (h3 : Bytes w A3 n3 c3 d) (h4 : Lists w A4 n4 c4 ls) :
    Calls Try.prog 6 #[.slice A0 n0 c0, .int .i64 i, .int .i64 k, .slice A3 n3 c3, .slice A4 n4 c4] w fun e w' => e = .returned (.bool true) ∧ Below w.heap.size w w' := by
  have q1 := h0.le
  have q2 := h0.cap
  have q3 := h3.le
  have q4 := h3.cap
  have q5 := h4.le
  have q6 := h4.cap
  have SS := Lib.hid h0
  have DD := Lib.hid h3
  have LL := Lib.hid h4
  clear h0 h3 h4
  by_cases ha : 60 < n0
  · have hai : (n0 : Int) > 60 := by omega
    go_enter Try.func6, Try.ntmps6
    go_wp2_with fail
    refine (oneKnown _).mono ?_
    rintro e wk ⟨rfl, hb⟩
    go_wp2
    go_ret
    exact ⟨rfl, hb⟩
  have hai : ¬ (n0 : Int) > 60 := by omega
  by_cases hb : 40 < n3
  · have hbi : (n3 : Int) > 40 := by omega
    go_enter Try.func6, Try.ntmps6
    go_wp2_with fail
    refine (oneKnown _).mono ?_
    rintro e wk ⟨rfl, hb⟩
    go_wp2
    go_ret
    exact ⟨rfl, hb⟩
  have hbi : ¬ (n3 : Int) > 40 := by omega
  obtain ⟨LD, ED, hD1, hD2⟩ := digits_both n3 d
  obtain ⟨LS, ES, hS1, hS2⟩ := secret_both n0 seed i k
  obtain ⟨LG, EG, hG1, hG2⟩ := sign_both n0 seed i n3 d
  obtain ⟨LV, EV, hV1, hV2⟩ := recover_both n3 d n4 ls
  have D1 := Lib.hid hD1
  have D2 := Lib.hid hD2
  have S1 := Lib.hid hS1
  have S2 := Lib.hid hS2
  have G1 := Lib.hid hG1
  have G2 := Lib.hid hG2
  have V1 := Lib.hid hV1
  have V2 := Lib.hid hV2
  clear hD1 hD2 hS1 hS2 hG1 hG2 hV1 hV2
  go_enter Try.func6, Try.ntmps6
  go_wp2_with fail
  refine (light_any _ _ _ _ _ LL.out).mono ?_
  rintro e w0 ⟨v, rfl, rfl⟩
  cases v with
  | false =>
    go_wp2_with fail
    refine (oneKnown _).mono ?_
    rintro e wk ⟨rfl, hb⟩
    go_wp2
    go_ret
    exact ⟨rfl, hb⟩
  | true =>
    go_wp2_with fail
    refine (D1.out _ _ _ DD.out).mono ?_
    rintro e w1 ⟨Aa, ma, ca, rfl, hv, he, hb⟩
    have hbx : Below w.heap.size w w1 := below_via (by go_grown) hb (by first | (simp; done) | (simp; omega))
    have SS := Lib.hid (SS.out.stays hbx)
    have DD := Lib.hid (DD.out.stays hbx)
    have LL := Lib.hid (LL.out.stays hbx)
    have XA := Lib.hid hv
    have R1 := Lib.hid hbx
    have hs1 := R1.out.size
    clear hb hbx hv
    subst he
    go_wp2_with fail
    refine (D2.out _ _ _ DD.out).mono ?_
    rintro e w2 ⟨Ab, mb, cb, rfl, hv, he, hb⟩
    have hbx : Below w1.heap.size w1 w2 := below_via (by go_grown) hb (by first | (simp; done) | (simp; omega))
    have SS := Lib.hid (SS.out.stays hbx)
    have DD := Lib.hid (DD.out.stays hbx)
    have LL := Lib.hid (LL.out.stays hbx)
    have XA := Lib.hid (XA.out.stays hbx)
    have XB := Lib.hid hv
    have R2 := Lib.hid (R1.out.trans (hbx.mono hs1))
    have hs2 := R2.out.size
    clear hb hbx hv
    clear R1
    subst he
    go_wp2_with fail
    refine (S1.out _ _ _ SS.out).mono ?_
    rintro e w3 ⟨Ac, mc, cc, rfl, hv, hb⟩
    have hbx : Below w2.heap.size w2 w3 := below_via (by go_grown) hb (by first | (simp; done) | (simp; omega))
    have SS := Lib.hid (SS.out.stays hbx)
    have DD := Lib.hid (DD.out.stays hbx)
    have LL := Lib.hid (LL.out.stays hbx)
    have XA := Lib.hid (XA.out.stays hbx)
    have XB := Lib.hid (XB.out.stays hbx)
    have XC := Lib.hid hv
    have R3 := Lib.hid (R2.out.trans (hbx.mono hs2))
    have hs3 := R3.out.size
    clear hb hbx hv
    clear R2
    go_wp2_with fail
    refine (S2.out _ _ _ SS.out).mono ?_
    rintro e w4 ⟨Ad, md, cd, rfl, hv, hb⟩
    have hbx : Below w3.heap.size w3 w4 := below_via (by go_grown) hb (by first | (simp; done) | (simp; omega))
    have SS := Lib.hid (SS.out.stays hbx)
    have DD := Lib.hid (DD.out.stays hbx)
    have LL := Lib.hid (LL.out.stays hbx)
    have XA := Lib.hid (XA.out.stays hbx)
    have XB := Lib.hid (XB.out.stays hbx)
    have XC := Lib.hid (XC.out.stays hbx)
    have XD := Lib.hid hv
    have R4 := Lib.hid (R3.out.trans (hbx.mono hs3))
    have hs4 := R4.out.size
    clear hb hbx hv
    clear R3
    go_wp2_with fail
    refine (G1.out _ _ _ _ _ SS.out DD.out).mono ?_
    rintro e w5 ⟨Ae, me, ce, rfl, hv, he, hb⟩
    have hbx : Below w4.heap.size w4 w5 := below_via (by go_grown) hb (by first | (simp; done) | (simp; omega))
    have SS := Lib.hid (SS.out.stays hbx)
    have DD := Lib.hid (DD.out.stays hbx)
    have LL := Lib.hid (LL.out.stays hbx)
    have XA := Lib.hid (XA.out.stays hbx)
    have XB := Lib.hid (XB.out.stays hbx)
    have XC := Lib.hid (XC.out.stays hbx)
    have XD := Lib.hid (XD.out.stays hbx)
    have XE := Lib.hid hv
    have R5 := Lib.hid (R4.out.trans (hbx.mono hs4))
    have hs5 := R5.out.size
    clear hb hbx hv
    clear R4
    subst he
    go_wp2_with fail
    refine (G2.out _ _ _ _ _ SS.out DD.out).mono ?_
    rintro e w6 ⟨Af, mf, cf, rfl, hv, he, hb⟩
    have hbx : Below w5.heap.size w5 w6 := below_via (by go_grown) hb (by first | (simp; done) | (simp; omega))
    have SS := Lib.hid (SS.out.stays hbx)
    have DD := Lib.hid (DD.out.stays hbx)
    have LL := Lib.hid (LL.out.stays hbx)
    have XA := Lib.hid (XA.out.stays hbx)
    have XB := Lib.hid (XB.out.stays hbx)
    have XC := Lib.hid (XC.out.stays hbx)
    have XD := Lib.hid (XD.out.stays hbx)
    have XE := Lib.hid (XE.out.stays hbx)
    have XF := Lib.hid hv
    have R6 := Lib.hid (R5.out.trans (hbx.mono hs5))
    have hs6 := R6.out.size
    clear hb hbx hv
    clear R5
    subst he
    go_wp2_with fail
    refine (V1.out _ _ _ _ _ DD.out LL.out).mono ?_
    rintro e w7 ⟨Ag, mg, cg, rfl, hv, hb⟩
    have hbx : Below w6.heap.size w6 w7 := below_via (by go_grown) hb (by first | (simp; done) | (simp; omega))
    have SS := Lib.hid (SS.out.stays hbx)
    have DD := Lib.hid (DD.out.stays hbx)
    have LL := Lib.hid (LL.out.stays hbx)
    have XA := Lib.hid (XA.out.stays hbx)
    have XB := Lib.hid (XB.out.stays hbx)
    have XC := Lib.hid (XC.out.stays hbx)
    have XD := Lib.hid (XD.out.stays hbx)
    have XE := Lib.hid (XE.out.stays hbx)
    have XF := Lib.hid (XF.out.stays hbx)
    have XG := Lib.hid hv
    have R7 := Lib.hid (R6.out.trans (hbx.mono hs6))
    have hs7 := R7.out.size
    clear hb hbx hv
    clear R6
    go_wp2_with fail
    refine (V2.out _ _ _ _ _ DD.out LL.out).mono ?_
    rintro e w8 ⟨Ah, mh, ch, rfl, hv, hb⟩
    have hbx : Below w7.heap.size w7 w8 := below_via (by go_grown) hb (by first | (simp; done) | (simp; omega))
    have SS := Lib.hid (SS.out.stays hbx)
    have DD := Lib.hid (DD.out.stays hbx)
    have LL := Lib.hid (LL.out.stays hbx)
    have XA := Lib.hid (XA.out.stays hbx)
    have XB := Lib.hid (XB.out.stays hbx)
    have XC := Lib.hid (XC.out.stays hbx)
    have XD := Lib.hid (XD.out.stays hbx)
    have XE := Lib.hid (XE.out.stays hbx)
    have XF := Lib.hid (XF.out.stays hbx)
    have XG := Lib.hid (XG.out.stays hbx)
    have XH := Lib.hid hv
    have R8 := Lib.hid (R7.out.trans (hbx.mono hs7))
    have hs8 := R8.out.size
    clear hb hbx hv
    clear R7
    go_wp2_with fail
    refine (oneKnown _).mono ?_
    rintro e w9 ⟨rfl, hb⟩
    have hbx : Below w8.heap.size w8 w9 := below_via (by go_grown) hb (by first | (simp; done) | (simp; omega))
    have SS := Lib.hid (SS.out.stays hbx)
    have DD := Lib.hid (DD.out.stays hbx)
    have LL := Lib.hid (LL.out.stays hbx)
    have XA := Lib.hid (XA.out.stays hbx)
    have XB := Lib.hid (XB.out.stays hbx)
    have XC := Lib.hid (XC.out.stays hbx)
    have XD := Lib.hid (XD.out.stays hbx)
    have XE := Lib.hid (XE.out.stays hbx)
    have XF := Lib.hid (XF.out.stays hbx)
    have XG := Lib.hid (XG.out.stays hbx)
    have XH := Lib.hid (XH.out.stays hbx)
    have R9 := Lib.hid (R8.out.trans (hbx.mono hs8))
    have hs9 := R9.out.size
    clear hb hbx 
    clear R8
    go_wp2_with fail
    refine (sameInts_true _ _ _ _ _ _ _ XA.out XB.out).mono ?_
    rintro e w10 ⟨rfl, hb⟩
    have hbx : Below w9.heap.size w9 w10 := below_via (by go_grown) hb (by first | (simp; done) | (simp; omega))
    have SS := Lib.hid (SS.out.stays hbx)
    have DD := Lib.hid (DD.out.stays hbx)
    have LL := Lib.hid (LL.out.stays hbx)
    have XA := Lib.hid (XA.out.stays hbx)
    have XB := Lib.hid (XB.out.stays hbx)
    have XC := Lib.hid (XC.out.stays hbx)
    have XD := Lib.hid (XD.out.stays hbx)
    have XE := Lib.hid (XE.out.stays hbx)
    have XF := Lib.hid (XF.out.stays hbx)
    have XG := Lib.hid (XG.out.stays hbx)
    have XH := Lib.hid (XH.out.stays hbx)
    have R10 := Lib.hid (R9.out.trans (hbx.mono hs9))
    have hs10 := R10.out.size
    clear hb hbx 
    clear R9
    go_wp2_with fail
    refine (refSame_true XC.out XD.out rfl).mono ?_
    rintro e w11 ⟨rfl, rfl⟩
    go_wp2_with fail
    refine (sameLists_true _ _ _ _ _ _ _ XE.out XF.out).mono ?_
    rintro e w11 ⟨rfl, hb⟩
    have hbx : Below w10.heap.size w10 w11 := below_via (by go_grown) hb (by first | (simp; done) | (simp; omega))
    have SS := Lib.hid (SS.out.stays hbx)
    have DD := Lib.hid (DD.out.stays hbx)
    have LL := Lib.hid (LL.out.stays hbx)
    have XA := Lib.hid (XA.out.stays hbx)
    have XB := Lib.hid (XB.out.stays hbx)
    have XC := Lib.hid (XC.out.stays hbx)
    have XD := Lib.hid (XD.out.stays hbx)
    have XE := Lib.hid (XE.out.stays hbx)
    have XF := Lib.hid (XF.out.stays hbx)
    have XG := Lib.hid (XG.out.stays hbx)
    have XH := Lib.hid (XH.out.stays hbx)
    have R11 := Lib.hid (R10.out.trans (hbx.mono hs10))
    have hs11 := R11.out.size
    clear hb hbx 
    clear R10
    go_wp2_with fail
    refine (refSame_true XG.out XH.out rfl).mono ?_
    rintro e w12 ⟨rfl, rfl⟩
    go_wp2
    go_ret
    exact ⟨rfl, R11.out⟩
end Go.Proofs.Ytahphlcahaheiaa
