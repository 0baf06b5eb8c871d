/- sectimeref03: mixed, Mac. -/
import Derived.Test.YticknkaohjkjpaaMask
namespace Go.Proofs.Yticknkaohjkjpaa
open Go.RowKit

theorem z64_len : (List.replicate 64 (0 : UInt8)).length = 64 := List.length_replicate
theorem z64_byte (j : Nat) : byteAt (List.replicate 64 (0 : UInt8)) j = 0 := by
  unfold byteAt
  rw [List.getD, List.getElem?_replicate]
  split <;> rfl
theorem padK_lo (k : List UInt8) (j : Nat) (h : j < k.length) : byteAt (padK k) j = byteAt k j := by
  unfold byteAt padK
  rw [List.getD, List.getElem?_append_left h]; rfl
theorem padK_hi (k : List UInt8) (j : Nat) (h : k.length ≤ j) : byteAt (padK k) j = 0 := by
  unfold byteAt padK
  rw [List.getD, List.getElem?_append_right h, List.getElem?_replicate]
  split <;> rfl
theorem byteAt_set (L : List UInt8) (j : Nat) (x : UInt8) (h : j < L.length) : byteAt (L.set j x) j = x.toNat := by
  unfold byteAt
  rw [List.getD, List.getElem?_set_self h]; rfl
theorem made_64 : madeCells #[Value.int .u8 0] 64 = rowB (List.replicate 64 0) := by
  apply Array.toList_inj.mp
  rw [toList_madeCells_one]
  simp [rowB, byteV]
theorem make_64b (w : World) : (Instr.makeSlice 22 (.int .i64 64) (.int .i64 64)).run Try.prog w =
    .ok (.slice (some ⟨w.heap.size, 0, none⟩) 64 64) (w.alloc (.cells (madeCells #[.int .u8 0] 64) 5)) := make_bytes 64 (by decide) w
theorem row64 {w : World} {g : Nat} {t : TypeId} {L : List UInt8} (h : Blk w g t (rowB L)) (hl : L.length = 64) : Bytes w (some ⟨g, 0, none⟩) 64 64 L := by
  refine ⟨by simpa using hl, Nat.le_refl _, by decide, fun i u hu => ⟨g, 0, rfl, ?_⟩⟩
  rw [Nat.zero_add, h.cell i, rowB, List.getElem?_toArray]
  exact hu

set_option maxRecDepth 100000 in
set_option maxHeartbeats 8000000 in
theorem refMixed_any (m : Nat) (hm : m = 54 ∨ m = 92) (k : List UInt8) (A : Option Addr) (n c : Nat) (w : World) (hb : Bytes w A n c k) :
    Calls Try.prog 55 #[.slice A n c, .int .u8 m] w fun e w' => ∃ A', e = .returned (.slice A' 64 64) ∧ Bytes w' A' 64 64 (maskL (shortK k) (UInt8.ofNat m)) ∧ Below w.heap.size w w' := by
  have n1 := hb.le
  have n2 := hb.cap
  have HL := Lib.hid hb.len
  have HB := Lib.hid hb
  clear hb
  by_cases hn : 64 < n
  · have hni : (n : Int) > 64 := by omega
    have HM : Hid (maskL (shortK k) (UInt8.ofNat m) = maskL (sumL k) (UInt8.ofNat m)) := by
      unfold Hid shortK
      rw [if_pos (by rw [HL.out]; exact hn)]
    go_enter Try.func55, Try.ntmps55
    go_wp2_with fail
    refine (refSum_any _ _ _ _ _ HB.out).mono ?_
    rintro e wk ⟨AK, cK, rfl, hv, hb⟩
    have KB : Hid (Bytes wk AK 32 cK (sumL k)) := own_rd hv
    have R := Lib.hid hb
    have hsR := R.out.size
    have q1 := KB.out.le
    have q2 := KB.out.cap
    clear hv hb
    generalize sumL k = K at *
    obtain ⟨nK, hnK⟩ : ∃ x, x = 32 := ⟨_, rfl⟩
    rw [← hnK] at KB q1 ⊢
    have hnK64 : nK ≤ 64 := by omega
    clear hnK
    have HPK := Lib.hid (padK_len K (by rw [KB.out.len]; exact hnK64))
    have HMK := Lib.hid (maskL_len K (UInt8.ofNat m) (by rw [KB.out.len]; exact hnK64))
    have hmk := make_64b wk
    go_wp2
    clear hmk
    rw [made_64]
    go_loopw [6] (fun i wr => ∃ j : Nat, j ≤ 64 ∧ i = .int .i64 j ∧ Hid (Blk wr wk.heap.size 5 (rowB (mixL (maskL K (UInt8.ofNat m)) (List.replicate 64 0) j))) ∧ Below wk.heap.size wk wr) (fun i _ => 64 - (intOf i).toNat)
    case atStart => exact ⟨0, by omega, rfl, by rw [mixL_zero]; exact Blk.new _ _ _, by go_grown⟩
    case round =>
      obtain ⟨j, hj, rfl, HR, hbr⟩ := hrel
      have hsr := hbr.size
      by_cases hj64 : j < 64
      · have hji : (j : Int) < 64 := by omega
        have c0 := HR.out.cell j
        rw [← List.append_nil (mixL _ _ _), rowB_at _ _ (by rw [List.append_nil, mixL_len _ _ _ (by rw [z64_len, HMK.out]), z64_len]; omega), mixL_byte _ _ _ _ (by rw [z64_len, HMK.out]) (by rw [z64_len]; exact hj64), z64_byte] at c0
        have f0 := HR.out.frozen j
        obtain ⟨x, hx1, hx2⟩ := mask_val K m hm j (by rw [HPK.out]; exact hj64)
        have HX := Lib.hid hx2
        clear hx2
        by_cases hjn : j < nK
        · have hjni : (j : Int) < (nK : Int) := by omega
          obtain ⟨b, off, rfl, hc⟩ := (KB.out.stays hbr).at_ hjn
          have hpb : byteAt (padK K) j = byteAt K j := padK_lo K j (by rw [KB.out.len]; exact hjn)
          rw [hpb] at HX
          have hb1 : Blk (wr.setCell ⟨wk.heap.size, j, none⟩ (.int .u8 (byteAt K j))) wk.heap.size 5 (rowB ((mixL (maskL K (UInt8.ofNat m)) (List.replicate 64 0) j).set j (K.getD j 0))) := by
            have := HR.out.put j (byteV (K.getD j 0))
            rw [rowB_set] at this
            exact this
          have HB1 := Lib.hid hb1
          clear hb1 hpb
          go_upto_region 9 with fail
          have hw : Below wk.heap.size wk (wr.setCell ⟨wk.heap.size, j, none⟩ (.int .u8 (byteAt K j))) := by go_grown
          generalize wr.setCell ⟨wk.heap.size, j, none⟩ (.int .u8 (byteAt K j)) = wx at *
          have c1 := HB1.out.cell j
          rw [rowB_at _ _ (by rw [List.length_set, mixL_len _ _ _ (by rw [z64_len, HMK.out]), z64_len]; omega), byteAt_set _ _ _ (by rw [mixL_len _ _ _ (by rw [z64_len, HMK.out]), z64_len]; omega)] at c1
          have c2 : wx.cell? ⟨wk.heap.size, j, none⟩ = some (.int .u8 (byteAt K j)) := c1
          have f1 := HB1.out.frozen j
          clear c1 c0 f0 hc
          go_wp2
          go_roundw
          case rel =>
            refine ⟨j + 1, by omega, by go_num, ?_, by go_grown⟩
            have := HB1.out.put j (byteV x)
            rw [rowB_set, List.set_set, ← List.append_nil (mixL _ _ _), mixL_set _ _ _ _ (by rw [z64_len, HMK.out]) (by rw [z64_len]; exact hj64) x hx1, List.append_nil] at this
            rw [HX.out]
            exact this
          case measure => simp [intOf]; omega
        · have hjni : ¬ (j : Int) < (nK : Int) := by omega
          have hpb : byteAt (padK K) j = 0 := padK_hi K j (by rw [KB.out.len]; omega)
          rw [hpb] at HX
          clear hpb
          go_wp2
          go_roundw
          case rel =>
            refine ⟨j + 1, by omega, by go_num, ?_, by go_grown⟩
            have := HR.out.put j (byteV x)
            rw [rowB_set, ← List.append_nil (mixL _ _ _), mixL_set _ _ _ _ (by rw [z64_len, HMK.out]) (by rw [z64_len]; exact hj64) x hx1, List.append_nil] at this
            have HX0 : Value.int .u8 (bits BinOp.xor IntKind.u8 0 (m : Int)) = byteV x := HX.out
            rw [HX0]
            exact this
          case measure => simp [intOf]; omega
      · obtain rfl : j = 64 := by omega
        go_wp2
        go_ret
        refine ⟨_, rfl, ?_, R.out.trans (hbr.mono hsR)⟩
        have hr := HR.out
        rw [mixL_end _ _ _ (by rw [z64_len, HMK.out]) (by rw [z64_len])] at hr
        rw [HM.out]
        exact row64 hr HMK.out
  · have hni : ¬ (n : Int) > 64 := by omega
    have HM : Hid (maskL (shortK k) (UInt8.ofNat m) = maskL k (UInt8.ofNat m)) := by
      unfold Hid shortK
      rw [if_neg (by rw [HL.out]; exact hn)]
    have R : Hid (Below w.heap.size w w) := Below.refl _ _
    have hsR := R.out.size
    obtain ⟨K, rfl⟩ : ∃ x, x = k := ⟨_, rfl⟩
    obtain ⟨wk, rfl⟩ : ∃ x, x = w := ⟨_, rfl⟩
    obtain ⟨nK, rfl⟩ : ∃ x, x = n := ⟨_, rfl⟩
    have KB := HB
    have hnK64 : nK ≤ 64 := by omega
    have HPK := Lib.hid (padK_len K (by rw [KB.out.len]; exact hnK64))
    have HMK := Lib.hid (maskL_len K (UInt8.ofNat m) (by rw [KB.out.len]; exact hnK64))
    go_enter Try.func55, Try.ntmps55
    have hmk := make_64b wk
    go_wp2
    clear hmk
    rw [made_64]
    go_loopw [6] (fun i wr => ∃ j : Nat, j ≤ 64 ∧ i = .int .i64 j ∧ Hid (Blk wr wk.heap.size 5 (rowB (mixL (maskL K (UInt8.ofNat m)) (List.replicate 64 0) j))) ∧ Below wk.heap.size wk wr) (fun i _ => 64 - (intOf i).toNat)
    case atStart => exact ⟨0, by omega, rfl, by rw [mixL_zero]; exact Blk.new _ _ _, by go_grown⟩
    case round =>
      obtain ⟨j, hj, rfl, HR, hbr⟩ := hrel
      have hsr := hbr.size
      by_cases hj64 : j < 64
      · have hji : (j : Int) < 64 := by omega
        have c0 := HR.out.cell j
        rw [← List.append_nil (mixL _ _ _), rowB_at _ _ (by rw [List.append_nil, mixL_len _ _ _ (by rw [z64_len, HMK.out]), z64_len]; omega), mixL_byte _ _ _ _ (by rw [z64_len, HMK.out]) (by rw [z64_len]; exact hj64), z64_byte] at c0
        have f0 := HR.out.frozen j
        obtain ⟨x, hx1, hx2⟩ := mask_val K m hm j (by rw [HPK.out]; exact hj64)
        have HX := Lib.hid hx2
        clear hx2
        by_cases hjn : j < nK
        · have hjni : (j : Int) < (nK : Int) := by omega
          obtain ⟨b, off, rfl, hc⟩ := (KB.out.stays hbr).at_ hjn
          have hpb : byteAt (padK K) j = byteAt K j := padK_lo K j (by rw [KB.out.len]; exact hjn)
          rw [hpb] at HX
          have hb1 : Blk (wr.setCell ⟨wk.heap.size, j, none⟩ (.int .u8 (byteAt K j))) wk.heap.size 5 (rowB ((mixL (maskL K (UInt8.ofNat m)) (List.replicate 64 0) j).set j (K.getD j 0))) := by
            have := HR.out.put j (byteV (K.getD j 0))
            rw [rowB_set] at this
            exact this
          have HB1 := Lib.hid hb1
          clear hb1 hpb
          go_upto_region 9 with fail
          have hw : Below wk.heap.size wk (wr.setCell ⟨wk.heap.size, j, none⟩ (.int .u8 (byteAt K j))) := by go_grown
          generalize wr.setCell ⟨wk.heap.size, j, none⟩ (.int .u8 (byteAt K j)) = wx at *
          have c1 := HB1.out.cell j
          rw [rowB_at _ _ (by rw [List.length_set, mixL_len _ _ _ (by rw [z64_len, HMK.out]), z64_len]; omega), byteAt_set _ _ _ (by rw [mixL_len _ _ _ (by rw [z64_len, HMK.out]), z64_len]; omega)] at c1
          have c2 : wx.cell? ⟨wk.heap.size, j, none⟩ = some (.int .u8 (byteAt K j)) := c1
          have f1 := HB1.out.frozen j
          clear c1 c0 f0 hc
          go_wp2
          go_roundw
          case rel =>
            refine ⟨j + 1, by omega, by go_num, ?_, by go_grown⟩
            have := HB1.out.put j (byteV x)
            rw [rowB_set, List.set_set, ← List.append_nil (mixL _ _ _), mixL_set _ _ _ _ (by rw [z64_len, HMK.out]) (by rw [z64_len]; exact hj64) x hx1, List.append_nil] at this
            rw [HX.out]
            exact this
          case measure => simp [intOf]; omega
        · have hjni : ¬ (j : Int) < (nK : Int) := by omega
          have hpb : byteAt (padK K) j = 0 := padK_hi K j (by rw [KB.out.len]; omega)
          rw [hpb] at HX
          clear hpb
          go_wp2
          go_roundw
          case rel =>
            refine ⟨j + 1, by omega, by go_num, ?_, by go_grown⟩
            have := HR.out.put j (byteV x)
            rw [rowB_set, ← List.append_nil (mixL _ _ _), mixL_set _ _ _ _ (by rw [z64_len, HMK.out]) (by rw [z64_len]; exact hj64) x hx1, List.append_nil] at this
            have HX0 : Value.int .u8 (bits BinOp.xor IntKind.u8 0 (m : Int)) = byteV x := HX.out
            rw [HX0]
            exact this
          case measure => simp [intOf]; omega
      · obtain rfl : j = 64 := by omega
        go_wp2
        go_ret
        refine ⟨_, rfl, ?_, R.out.trans (hbr.mono hsR)⟩
        have hr := HR.out
        rw [mixL_end _ _ _ (by rw [z64_len, HMK.out]) (by rw [z64_len])] at hr
        rw [HM.out]
        exact row64 hr HMK.out

theorem rd_join2 {w : World} {B : Nat} {A : Option Addr} {n c : Nat} {a b : List UInt8} (h : w.ownsRow B 5 1 (.slice A n c) n ([a, b].flatten.map byteV)) : Bytes w A n c (a ++ b) := by
  have := own_rd h
  simpa [Bytes] using this
set_option maxRecDepth 100000 in
set_option maxHeartbeats 8000000 in
theorem refMac_any (k b : List UInt8) (A : Option Addr) (n c : Nat) (A2 : Option Addr) (n2 c2 : Nat) (w : World) (hk : Bytes w A n c k) (hb : Bytes w A2 n2 c2 b) (hn2 : n2 ≤ 1000000) :
    Calls Try.prog 22 #[.slice A n c, .slice A2 n2 c2] w fun e w' => ∃ A' c', e = .returned (.slice A' 32 c') ∧ w'.ownsRow w.heap.size 5 1 (.slice A' 32 c') 32 ((macL k b).map byteV) ∧ Below w.heap.size w w' := by
  have KB := Lib.hid hk
  have BB := Lib.hid hb
  clear hk hb
  go_enter Try.func22, Try.ntmps22
  go_wp2_with fail
  refine (refMixed_any 92 (by decide) _ _ _ _ _ KB.out).mono ?_
  rintro e w1 ⟨Aa, rfl, hv, hb⟩
  have hbx : Below w.heap.size w w1 := below_via (by go_grown) hb (by simp)
  have KB := Lib.hid (KB.out.stays hbx)
  have BB := Lib.hid (BB.out.stays hbx)
  have M1 := Lib.hid hv
  have R1 := Lib.hid hbx
  have hs1 := R1.out.size
  clear hb hbx hv
  go_wp2_with fail
  refine (refMixed_any 54 (by decide) _ _ _ _ _ KB.out).mono ?_
  rintro e w2 ⟨Ab, rfl, hv, hb⟩
  have hbx : Below w1.heap.size w1 w2 := below_via (by go_grown) hb (by simp)
  have KB := Lib.hid (KB.out.stays hbx)
  have BB := Lib.hid (BB.out.stays hbx)
  have M1 := Lib.hid (M1.out.stays hbx)
  have M2 := Lib.hid hv
  have R2 := Lib.hid (R1.out.trans (hbx.mono hs1))
  have hs2 := R2.out.size
  clear hb hbx hv
  clear R1
  go_wp2_with fail
  refine (refJoin_any _ _ _ [maskL (shortK k) (UInt8.ofNat 54), b] _ (lists_made2 M2.out BB.out) (64 + n2) (by rw [List.flatten_cons, List.flatten_cons, List.flatten_nil, List.append_nil, List.length_append, M2.out.len, BB.out.len]) (by omega)).mono ?_
  rintro e w3 ⟨Ac, cc, rfl, hv, hb⟩
  have hbx : Below w2.heap.size w2 w3 := below_via (by go_grown) hb (by simp)
  have KB := Lib.hid (KB.out.stays hbx)
  have BB := Lib.hid (BB.out.stays hbx)
  have M1 := Lib.hid (M1.out.stays hbx)
  have M2 := Lib.hid (M2.out.stays hbx)
  have J1 := Lib.hid (rd_join2 hv)
  have R3 := Lib.hid (R2.out.trans (hbx.mono hs2))
  have hs3 := R3.out.size
  clear hb hbx 
  clear R2
  clear hv
  clear M2 BB KB
  go_wp2_with fail
  refine (refSum_any _ _ _ _ _ J1.out).mono ?_
  rintro e w4 ⟨Ad, cd, rfl, hv, hb⟩
  have hbx : Below w3.heap.size w3 w4 := below_via (by go_grown) hb (by simp)
  have M1 := Lib.hid (M1.out.stays hbx)
  have J1 := Lib.hid (J1.out.stays hbx)
  have I1 := Lib.hid (show Bytes _ _ _ _ _ from own_rd hv)
  have R4 := Lib.hid (R3.out.trans (hbx.mono hs3))
  have hs4 := R4.out.size
  clear hb hbx 
  clear R3
  clear hv
  clear J1
  go_wp2_with fail
  refine (refJoin_any _ _ _ [maskL (shortK k) (UInt8.ofNat 92), _] _ (lists_made2 M1.out I1.out) (64 + 32) (by rw [List.flatten_cons, List.flatten_cons, List.flatten_nil, List.append_nil, List.length_append, M1.out.len, I1.out.len]) (by omega)).mono ?_
  rintro e w5 ⟨Ae, ce, rfl, hv, hb⟩
  have hbx : Below w4.heap.size w4 w5 := below_via (by go_grown) hb (by simp)
  have M1 := Lib.hid (M1.out.stays hbx)
  have I1 := Lib.hid (I1.out.stays hbx)
  have J1 := Lib.hid (rd_join2 hv)
  have R5 := Lib.hid (R4.out.trans (hbx.mono hs4))
  have hs5 := R5.out.size
  clear hb hbx 
  clear R4
  clear hv
  clear M1 I1
  go_wp2_with fail
  refine (refSum_any _ _ _ _ _ J1.out).mono ?_
  rintro e w6 ⟨Af, cf, rfl, hv, hb⟩
  have hbx : Below w5.heap.size w5 w6 := below_via (by go_grown) hb (by simp)
  have J1 := Lib.hid (J1.out.stays hbx)
  have O1 := Lib.hid hv
  have R6 := Lib.hid (R5.out.trans (hbx.mono hs5))
  have hs6 := R6.out.size
  clear hb hbx hv
  clear R5
  go_wp2
  go_ret
  exact ⟨_, _, rfl, own_more O1.out hs5, R6.out⟩
end Go.Proofs.Yticknkaohjkjpaa
