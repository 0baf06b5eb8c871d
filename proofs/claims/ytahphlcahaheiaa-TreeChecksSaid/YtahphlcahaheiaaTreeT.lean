/- TreeActs: the walk. -/
import Derived.Test.YtahphlcahaheiaaTreeK
import Derived.Test.YtahphlcahaheiaaSameL
import Derived.Deep.RegionHeld3
namespace Go.Proofs.Ytahphlcahaheiaa
open Go.RowKit

/-- A list of lists and an error, as a pair of results. -/
def ResT (L : List (List UInt8)) (E : Int) (w : World) (e : Ending) (w' : World) : Prop := ∃ A' m c', e = .returned (.tuple #[.slice A' m c', .int .i64 E]) ∧ Lists w' A' m c' L ∧ m = L.length ∧ Below w.heap.size w w'
/-- Some truth value, true only for few and short elements; the world as it was. -/
def LightIs (n most : Nat) (ls : List (List UInt8)) (w : World) (e : Ending) (w' : World) : Prop := ∃ v : Bool, e = .returned (.bool v) ∧ (v = true → n ≤ most ∧ ∀ i, i < n → (listAt ls i).length ≤ 60) ∧ w = w'
set_option maxRecDepth 100000 in
set_option maxHeartbeats 4000000 in
theorem light7_any (A : Option Addr) (n c most : Nat) (ls : List (List UInt8)) (w : World) (h1 : Lists w A n c ls) (hm : most ≤ 1000) :
    Calls Try.prog 47 #[.slice A n c, .int .i64 most] w (LightIs n most ls w) := by
  have q1 := h1.le
  have q2 := h1.cap
  have F1 := Lib.hid h1
  clear h1
  by_cases hn : most < n
  · have hni : (n : Int) > (most : Int) := by omega
    go_enter Try.func47, Try.ntmps47
    go_wp2
    go_ret
    exact ⟨false, rfl, fun h => (by cases h), rfl⟩
  have hni : ¬ (n : Int) > (most : Int) := by omega
  go_enter Try.func47, Try.ntmps47
  go_wp2
  go_loop [5] (fun i => ∃ k : Nat, k ≤ n ∧ i = .int .i64 k ∧ Hid (∀ i, i < k → (listAt ls i).length ≤ 60)) (fun i => n - (intOf i).toNat)
  case atStart => exact ⟨0, Nat.zero_le _, rfl, fun i h => by omega⟩
  case round =>
    obtain ⟨k, hk, rfl, HK⟩ := hrel
    by_cases hkn : k < n
    · have hki : (k : Int) < (n : Int) := by omega
      obtain ⟨b, off, A', n', c', rfl, hc0, hy⟩ := F1.out.at_ hkn
      have HY := Lib.hid hy.len
      have y1 := hy.le
      have y2 := hy.cap
      clear hy
      by_cases hb : 60 < n'
      · have hb1 : (n' : Int) > 60 := by omega
        go_wp2
        go_ret
        exact ⟨false, rfl, fun h => (by cases h), rfl⟩
      · have hb1 : ¬ (n' : Int) > 60 := by omega
        go_wp2
        go_round
        case rel =>
          refine ⟨k + 1, by omega, by go_num, fun i hi => ?_⟩
          by_cases e : i = k
          · rw [e, HY.out]; omega
          · exact HK.out i (by omega)
        case measure => simp [intOf]; omega
    · obtain rfl : k = n := by omega
      go_wp2
      go_ret
      exact ⟨true, rfl, fun _ => ⟨by omega, HK.out⟩, rfl⟩
theorem path7_both (n : Nat) (ls : List (List UInt8)) (i : Int) (hn : n ≤ 1024) (hf : few ls) : ∃ L E, (∀ A c w, Lists w A n c ls → Calls Try.prog 42 #[.slice A n c, .int .i64 i] w (ResT L E w)) ∧
    (∀ A c w, Lists w A n c ls → Calls Try.prog 44 #[.slice A n c, .int .i64 i] w (ResT L E w)) := by
  by_cases h : 0 ≤ i ∧ i < n
  · obtain ⟨x, rfl⟩ := Int.eq_ofNat_of_zero_le h.1
    refine ⟨pathL (ls.map leafL) x, 0, fun A c w hl => (pathOf_ok hl hn hf (by omega)).mono ?_, fun A c w hl => (refPathOf_ok hl hn hf (by omega)).mono ?_⟩ <;>
    · rintro e w' ⟨A', m, c', rfl, hv, _, hb⟩
      exact ⟨_, _, _, rfl, hv.lists, (hv.len (by decide)).symm, hb⟩
  · refine ⟨[], 4, fun A c w hl => (pathOf_range A n c i w hn (by omega)).mono ?_, fun A c w hl => (refPathOf_range A n c i w hn (by omega)).mono ?_⟩ <;>
    · rintro e w' ⟨rfl, hb⟩
      exact ⟨_, _, _, rfl, Lists.nil _, rfl, hb⟩
theorem cons7_both (n : Nat) (ls : List (List UInt8)) (i : Int) (hn : n ≤ 1024) (hf : few ls) : ∃ L E, (∀ A c w, Lists w A n c ls → Calls Try.prog 48 #[.slice A n c, .int .i64 i] w (ResT L E w)) ∧
    (∀ A c w, Lists w A n c ls → Calls Try.prog 49 #[.slice A n c, .int .i64 i] w (ResT L E w)) := by
  by_cases h : 1 ≤ i ∧ i ≤ n
  · obtain ⟨x, rfl⟩ := Int.eq_ofNat_of_zero_le (show 0 ≤ i by omega)
    refine ⟨proofL (ls.map leafL) x true, 0, fun A c w hl => (consOf_ok hl hn hf (by omega) (by omega)).mono ?_, fun A c w hl => (refConsOf_ok hl hn hf (by omega) (by omega)).mono ?_⟩ <;>
    · rintro e w' ⟨A', m, c', rfl, hv, _, hb⟩
      exact ⟨_, _, _, rfl, hv.lists, (hv.len (by decide)).symm, hb⟩
  · refine ⟨[], 4, fun A c w hl => (consOf_range A n c i w hn (by omega)).mono ?_, fun A c w hl => (refConsOf_range A n c i w hn (by omega)).mono ?_⟩ <;>
    · rintro e w' ⟨rfl, hb⟩
      exact ⟨_, _, _, rfl, Lists.nil _, rfl, hb⟩
theorem few_of (ls : List (List UInt8)) (n : Nat) (hl : ls.length = n) (h : ∀ i, i < n → (listAt ls i).length ≤ 60) : few ls := fun l hm => by
  obtain ⟨i, hi, rfl⟩ := List.mem_iff_getElem.1 hm
  have := h i (by omega)
  simp [listAt, List.getD, hi] at this
  omega
set_option maxRecDepth 100000 in
set_option maxHeartbeats 4000000 in
theorem treeActs_walk (A0 : Option Addr) (n c : Nat) (ls : List (List UInt8)) (i m : Int) (w : World) (h0 : Lists w A0 n c ls) :
    Calls Try.prog 11 #[.slice A0 n c, .int .i64 i, .int .i64 m] w fun e w' => e = .returned (.bool true) ∧ Below w.heap.size w w' := by
  have q5 := h0.le
  have q6 := h0.cap
  have LL := Lib.hid h0
  have HLn := Lib.hid h0.len
  clear h0
  go_enter Try.func11, Try.ntmps11
  go_wp2_with fail
  refine (light7_any _ _ _ 20 _ _ LL.out (by omega)).mono ?_
  rintro e w0 ⟨v, rfl, hv, rfl⟩
  cases v with
  | false =>
    clear hv
    go_wp2_with fail
    refine (treeKnown _).mono ?_
    rintro e wk ⟨rfl, hb⟩
    go_wp2
    go_ret
    exact ⟨rfl, hb⟩
  | true =>
    obtain ⟨hn, hs⟩ := hv rfl
    have HS := Lib.hid hs
    have HF := Lib.hid (few_of ls n HLn.out hs)
    clear hv hs
    obtain ⟨LP, EP, hP1, hP2⟩ := path7_both n ls i (by omega) HF.out
    obtain ⟨LC, EC, hC1, hC2⟩ := cons7_both n ls m (by omega) HF.out
    have P1 := Lib.hid hP1
    have P2 := Lib.hid hP2
    have C1 := Lib.hid hC1
    have C2 := Lib.hid hC2
    clear hP1 hP2 hC1 hC2
    go_wp2_with fail
    refine (rootOf_ok LL.out (by omega) HF.out).mono ?_
    rintro e w1 ⟨A1, c1, rfl, hv, hf, hb⟩
    have hbx : Below w.heap.size w w1 := below_via (by go_grown) hb (by first | (simp; done) | (simp; omega))
    have LL := Lib.hid (LL.out.stays hbx)
    have V1 := Lib.hid hv
    have R1 := Lib.hid hbx
    have hs1 := R1.out.size
    clear hb hbx hv
    clear hf
    go_wp2_with fail
    refine (refRootOf_ok LL.out (by omega) HF.out).mono ?_
    rintro e w2 ⟨A2, c2, rfl, hv, hf, hb⟩
    have hbx : Below w1.heap.size w1 w2 := below_via (by go_grown) hb (by first | (simp; done) | (simp; omega))
    have LL := Lib.hid (LL.out.stays hbx)
    have V1 := Lib.hid (V1.out.stays hbx)
    have V2 := Lib.hid hv
    have R2 := Lib.hid (R1.out.trans (hbx.mono hs1))
    have hs2 := R2.out.size
    clear hb hbx hv
    clear R1
    clear hf
    go_wp2_with fail
    refine (P1.out _ _ _ LL.out).mono ?_
    rintro e w3 ⟨A3, m3, c3, rfl, hv, he, hb⟩
    have hbx : Below w2.heap.size w2 w3 := below_via (by go_grown) hb (by first | (simp; done) | (simp; omega))
    have LL := Lib.hid (LL.out.stays hbx)
    have V1 := Lib.hid (V1.out.stays hbx)
    have V2 := Lib.hid (V2.out.stays hbx)
    have V3 := Lib.hid hv
    have R3 := Lib.hid (R2.out.trans (hbx.mono hs2))
    have hs3 := R3.out.size
    clear hb hbx hv
    clear R2
    subst he
    go_wp2_with fail
    refine (P2.out _ _ _ LL.out).mono ?_
    rintro e w4 ⟨A4, m4, c4, rfl, hv, he, hb⟩
    have hbx : Below w3.heap.size w3 w4 := below_via (by go_grown) hb (by first | (simp; done) | (simp; omega))
    have LL := Lib.hid (LL.out.stays hbx)
    have V1 := Lib.hid (V1.out.stays hbx)
    have V2 := Lib.hid (V2.out.stays hbx)
    have V3 := Lib.hid (V3.out.stays hbx)
    have V4 := Lib.hid hv
    have R4 := Lib.hid (R3.out.trans (hbx.mono hs3))
    have hs4 := R4.out.size
    clear hb hbx hv
    clear R3
    subst he
    go_wp2_with fail
    refine (C1.out _ _ _ LL.out).mono ?_
    rintro e w5 ⟨A5, m5, c5, rfl, hv, he, hb⟩
    have hbx : Below w4.heap.size w4 w5 := below_via (by go_grown) hb (by first | (simp; done) | (simp; omega))
    have LL := Lib.hid (LL.out.stays hbx)
    have V1 := Lib.hid (V1.out.stays hbx)
    have V2 := Lib.hid (V2.out.stays hbx)
    have V3 := Lib.hid (V3.out.stays hbx)
    have V4 := Lib.hid (V4.out.stays hbx)
    have V5 := Lib.hid hv
    have R5 := Lib.hid (R4.out.trans (hbx.mono hs4))
    have hs5 := R5.out.size
    clear hb hbx hv
    clear R4
    subst he
    go_wp2_with fail
    refine (C2.out _ _ _ LL.out).mono ?_
    rintro e w6 ⟨A6, m6, c6, rfl, hv, he, hb⟩
    have hbx : Below w5.heap.size w5 w6 := below_via (by go_grown) hb (by first | (simp; done) | (simp; omega))
    have LL := Lib.hid (LL.out.stays hbx)
    have V1 := Lib.hid (V1.out.stays hbx)
    have V2 := Lib.hid (V2.out.stays hbx)
    have V3 := Lib.hid (V3.out.stays hbx)
    have V4 := Lib.hid (V4.out.stays hbx)
    have V5 := Lib.hid (V5.out.stays hbx)
    have V6 := Lib.hid hv
    have R6 := Lib.hid (R5.out.trans (hbx.mono hs5))
    have hs6 := R6.out.size
    clear hb hbx hv
    clear R5
    subst he
    go_wp2
    go_loopw [19] (fun i' wr => ∃ k : Nat, k ≤ n ∧ i' = .int .i64 k ∧ Below w6.heap.size w6 wr) (fun i' _ => n + 1 - (intOf i').toNat)
    case atStart => exact ⟨0, Nat.zero_le _, rfl, Below.refl _ _⟩
    case round =>
      obtain ⟨k, hk, rfl, hbr⟩ := hrel
      have hsr := hbr.size
      by_cases hgo : k + 1 < n ∧ k < 3
      · obtain ⟨hk1, hk3⟩ := hgo
        have hki : (k : Int) + 1 < (n : Int) := by omega
        have hki3 : (k : Int) < 3 := by omega
        have HLw := Lib.hid (LL.out.stays hbr)
        obtain ⟨b, off, Ax, nx, cx, rfl, hc0, hy⟩ := HLw.out.at_ (i := k) (by omega)
        obtain ⟨b2, off2, Ay, ny, cy, e2, hc1, hy2⟩ := HLw.out.at_ (i := k + 1) hk1
        simp only [Option.some.injEq, Addr.mk.injEq] at e2
        obtain ⟨rfl, rfl, _⟩ := e2
        have hx6 : nx ≤ 60 := by rw [← hy.len]; exact HS.out k (by omega)
        have hy6 : ny ≤ 60 := by rw [← hy2.len]; exact HS.out (k + 1) hk1
        have HX := Lib.hid hy
        have HY := Lib.hid hy2
        have t1 : ((k : Int) + 1).toNat = k + 1 := by omega
        have t2 : IntKind.i64.wrap ((k : Int) + 1) = (k : Int) + 1 := IntWalk.i64_in _ (by omega)
        have t3 : (0 : Int) ≤ (k : Int) + 1 := by omega
        have t4 : (0 : Int) ≤ (k : Int) := by omega
        have t5 : (k : Int) < (n : Int) := by omega
        clear hy hy2
        go_wp2_with fail
        go_region_held3 (fun w' => w'.cell? ⟨b, off + k, none⟩ = some (.slice Ax nx cx) ∧ w'.cell? ⟨b, off + (k + 1), none⟩ = some (.slice Ay ny cy))
          (go_keep)
          (first
            | (go_at_call 50; with_reducible refine (leaf_any _ _ _ _ _ (HX.out.stays (by go_grown)) (by omega)).mono ?_; rintro e x2 ⟨Aa, ca, rfl, va, _, hb⟩; have R2 : Below wr.heap.size wr x2 := below_via (by go_grown) hb (by first | (simp; done) | (simp; omega)); have z0 := cell_stays R2 hc0; have z1 := cell_stays R2 hc1)
            | (go_at_call 51; with_reducible refine (refLeaf_any _ _ _ _ _ (HX.out.stays (R2.trans (by go_grown))) (by omega)).mono ?_; rintro e x3 ⟨Ab, cb, rfl, vb, _, hb⟩; have va3 := va.stays (below_via (by go_grown) hb (by first | (simp; done) | (simp; omega))); have R3 : Below wr.heap.size wr x3 := R2.trans ((below_via (by go_grown) hb (by first | (simp; done) | (simp; omega))).mono R2.size); have y0 := cell_stays R3 hc0; have y1 := cell_stays R3 hc1)
            | (go_at_call_of 19 (Value.slice Aa 32 ca); refine (refSame_true (va3.stays (by go_grown)) (vb.stays (by go_grown)) rfl).mono ?_; rintro e wz ⟨rfl, rfl⟩)
            | (go_at_call 40; with_reducible refine (node_any _ _ _ _ _ _ _ _ _ (HX.out.stays (R3.trans (by go_grown))) (HY.out.stays (R3.trans (by go_grown))) (by omega) (by omega)).mono ?_; rintro e x4 ⟨Ac, cc, rfl, vc, _, hb⟩; have R4 : Below wr.heap.size wr x4 := R3.trans ((below_via (by go_grown) hb (by first | (simp; done) | (simp; omega))).mono R3.size); have u0 := cell_stays R4 hc0; have u1 := cell_stays R4 hc1)
            | (go_at_call 52; with_reducible refine (refNode_any _ _ _ _ _ _ _ _ _ (HX.out.stays (R4.trans (by go_grown))) (HY.out.stays (R4.trans (by go_grown))) (by omega) (by omega)).mono ?_; rintro e x5 ⟨Ad, cd, rfl, vd, _, hb⟩; have vc5 := vc.stays (below_via (by go_grown) hb (by first | (simp; done) | (simp; omega))); have R5 : Below wr.heap.size wr x5 := R4.trans ((below_via (by go_grown) hb (by first | (simp; done) | (simp; omega))).mono R4.size); have v0 := cell_stays R5 hc0; have v1 := cell_stays R5 hc1)
            | (go_at_call_of 19 (Value.slice Ac 32 cc); refine (refSame_true (vc5.stays (by go_grown)) (vd.stays (by go_grown)) rfl).mono ?_; rintro e wz ⟨rfl, rfl⟩))
        all_goals
          have hB : Below w6.heap.size w6 _ := hbr.trans ((R5.trans (show Below wr.heap.size _ _ by go_grown)).mono hsr)
          go_wp2
          go_roundw
          case rel => exact ⟨k + 1, by omega, by go_num, by first | exact hbr.trans (R5.mono hsr) | exact (hbr.trans (R5.mono hsr)).drew⟩
          case measure => simp [intOf]; omega
      · by_cases hk1 : k + 1 < n
        · have hki : (k : Int) + 1 < (n : Int) := by omega
          have hk3 : ¬ (k : Int) < 3 := by omega
          have RW := Lib.hid (R6.out.trans (hbr.mono hs6))
          have hsW := RW.out.size
          have V1 := Lib.hid (V1.out.stays hbr)
          have V2 := Lib.hid (V2.out.stays hbr)
          have V3 := Lib.hid (V3.out.stays hbr)
          have V4 := Lib.hid (V4.out.stays hbr)
          have V5 := Lib.hid (V5.out.stays hbr)
          have V6 := Lib.hid (V6.out.stays hbr)
          clear hbr
          go_wp2_with fail
          refine (treeKnown _).mono ?_
          rintro e w21 ⟨rfl, hb⟩
          have hbx : Below wr.heap.size wr w21 := below_via (by go_grown) hb (by first | (simp; done) | (simp; omega))
          have V1 := Lib.hid (V1.out.stays hbx)
          have V2 := Lib.hid (V2.out.stays hbx)
          have V3 := Lib.hid (V3.out.stays hbx)
          have V4 := Lib.hid (V4.out.stays hbx)
          have V5 := Lib.hid (V5.out.stays hbx)
          have V6 := Lib.hid (V6.out.stays hbx)
          have R21 := Lib.hid (RW.out.trans (hbx.mono hsW))
          have hs21 := R21.out.size
          clear hb hbx 
          clear RW
          go_wp2_with fail
          refine (refSame_true V1.out V2.out rfl).mono ?_
          rintro e w22 ⟨rfl, rfl⟩
          go_wp2_with fail
          refine (sameLists_true _ _ _ _ _ _ _ V3.out V4.out).mono ?_
          rintro e w22 ⟨rfl, hb⟩
          have hbx : Below w21.heap.size w21 w22 := below_via (by go_grown) hb (by first | (simp; done) | (simp; omega))
          have V1 := Lib.hid (V1.out.stays hbx)
          have V2 := Lib.hid (V2.out.stays hbx)
          have V3 := Lib.hid (V3.out.stays hbx)
          have V4 := Lib.hid (V4.out.stays hbx)
          have V5 := Lib.hid (V5.out.stays hbx)
          have V6 := Lib.hid (V6.out.stays hbx)
          have R22 := Lib.hid (R21.out.trans (hbx.mono hs21))
          have hs22 := R22.out.size
          clear hb hbx 
          clear R21
          go_wp2_with fail
          refine (sameLists_true _ _ _ _ _ _ _ V5.out V6.out).mono ?_
          rintro e w23 ⟨rfl, hb⟩
          have hbx : Below w22.heap.size w22 w23 := below_via (by go_grown) hb (by first | (simp; done) | (simp; omega))
          have V1 := Lib.hid (V1.out.stays hbx)
          have V2 := Lib.hid (V2.out.stays hbx)
          have V3 := Lib.hid (V3.out.stays hbx)
          have V4 := Lib.hid (V4.out.stays hbx)
          have V5 := Lib.hid (V5.out.stays hbx)
          have V6 := Lib.hid (V6.out.stays hbx)
          have R23 := Lib.hid (R22.out.trans (hbx.mono hs22))
          have hs23 := R23.out.size
          clear hb hbx 
          clear R22
          go_wp2
          go_ret
          exact ⟨rfl, R23.out⟩
        · have hki : ¬ (k : Int) + 1 < (n : Int) := by omega
          have RW := Lib.hid (R6.out.trans (hbr.mono hs6))
          have hsW := RW.out.size
          have V1 := Lib.hid (V1.out.stays hbr)
          have V2 := Lib.hid (V2.out.stays hbr)
          have V3 := Lib.hid (V3.out.stays hbr)
          have V4 := Lib.hid (V4.out.stays hbr)
          have V5 := Lib.hid (V5.out.stays hbr)
          have V6 := Lib.hid (V6.out.stays hbr)
          clear hbr
          go_wp2_with fail
          refine (treeKnown _).mono ?_
          rintro e w21 ⟨rfl, hb⟩
          have hbx : Below wr.heap.size wr w21 := below_via (by go_grown) hb (by first | (simp; done) | (simp; omega))
          have V1 := Lib.hid (V1.out.stays hbx)
          have V2 := Lib.hid (V2.out.stays hbx)
          have V3 := Lib.hid (V3.out.stays hbx)
          have V4 := Lib.hid (V4.out.stays hbx)
          have V5 := Lib.hid (V5.out.stays hbx)
          have V6 := Lib.hid (V6.out.stays hbx)
          have R21 := Lib.hid (RW.out.trans (hbx.mono hsW))
          have hs21 := R21.out.size
          clear hb hbx 
          clear RW
          go_wp2_with fail
          refine (refSame_true V1.out V2.out rfl).mono ?_
          rintro e w22 ⟨rfl, rfl⟩
          go_wp2_with fail
          refine (sameLists_true _ _ _ _ _ _ _ V3.out V4.out).mono ?_
          rintro e w22 ⟨rfl, hb⟩
          have hbx : Below w21.heap.size w21 w22 := below_via (by go_grown) hb (by first | (simp; done) | (simp; omega))
          have V1 := Lib.hid (V1.out.stays hbx)
          have V2 := Lib.hid (V2.out.stays hbx)
          have V3 := Lib.hid (V3.out.stays hbx)
          have V4 := Lib.hid (V4.out.stays hbx)
          have V5 := Lib.hid (V5.out.stays hbx)
          have V6 := Lib.hid (V6.out.stays hbx)
          have R22 := Lib.hid (R21.out.trans (hbx.mono hs21))
          have hs22 := R22.out.size
          clear hb hbx 
          clear R21
          go_wp2_with fail
          refine (sameLists_true _ _ _ _ _ _ _ V5.out V6.out).mono ?_
          rintro e w23 ⟨rfl, hb⟩
          have hbx : Below w22.heap.size w22 w23 := below_via (by go_grown) hb (by first | (simp; done) | (simp; omega))
          have V1 := Lib.hid (V1.out.stays hbx)
          have V2 := Lib.hid (V2.out.stays hbx)
          have V3 := Lib.hid (V3.out.stays hbx)
          have V4 := Lib.hid (V4.out.stays hbx)
          have V5 := Lib.hid (V5.out.stays hbx)
          have V6 := Lib.hid (V6.out.stays hbx)
          have R23 := Lib.hid (R22.out.trans (hbx.mono hs22))
          have hs23 := R23.out.size
          clear hb hbx 
          clear R22
          go_wp2
          go_ret
          exact ⟨rfl, R23.out⟩
end Go.Proofs.Ytahphlcahaheiaa
