/- sectimeref03.Expand; Extract and Derive of both. -/
import Derived.Test.YticknkaohjkjpaaLabel
namespace Go.Proofs.Yticknkaohjkjpaa
open Go.RowKit

set_option maxRecDepth 100000 in
set_option maxHeartbeats 1000000 in
theorem refExpand_any (key info : List UInt8) (A : Option Addr) (nk c : Nat) (A2 : Option Addr) (ni c2 n : Nat) (w : World) (hk : Bytes w A nk c key) (hi2 : Bytes w A2 ni c2 info) (hni : ni ≤ 100000) (hn : n ≤ 8000) :
    Calls Try.prog 32 #[.slice A nk c, .slice A2 ni c2, .int .i64 n] w fun e w' => ∃ A' c', e = .returned (.tuple #[.slice A' n c', .int .i64 0]) ∧ Bytes w' A' n c' (expandL key info n) ∧ Below w.heap.size w w' := by
  obtain ⟨i0, hi, hz0, hz1, hz2⟩ := info_parts infoByteA
  have KB := Lib.hid hk
  have IB := Lib.hid hi2
  have q1 := hk.le
  have q2 := hk.cap
  have q3 := hi2.le
  have q4 := hi2.cap
  clear hk hi2
  go_enter Try.func32, Try.ntmps32
  go_wp2
  go_loopw [8, 9, 10] (fun o l i wr => ∃ (j mo co ml cl : Nat) (AO AL : Option Addr), 32 * j ≤ n + 31 ∧ o = .slice AO mo co ∧ l = .slice AL ml cl ∧ i = .int .i64 ((j : Int) + 1) ∧ Hid (mo = 32 * j) ∧ ml ≤ 32 ∧
      Hid (wr.ownsRow w.heap.size 5 1 (.slice AO mo co) mo ((outE key info j).map byteV)) ∧ Hid (wr.ownsRow w.heap.size 5 1 (.slice AL ml cl) ml ((lastE key info j).map byteV)) ∧
      Hid (Apart (.slice AO mo co) (.slice AL ml cl)) ∧ Below w.heap.size w wr) (fun _ _ i _ => n + 32 - 32 * (intOf i).toNat)
  case atStart =>
    have h1 := World.ownsRow_lit (base := w.heap.size) (e := 5) (size := 1) w #[] 0 (Nat.le_refl _) (by decide) rfl
    have h2 := World.ownsRow_lit (base := w.heap.size) (e := 5) (size := 1) (w.alloc (.cells #[] 5)) #[] 0 (by simp) (by decide) rfl
    refine ⟨0, 0, 0, 0, 0, _, _, by omega, rfl, rfl, rfl, rfl, by omega, own_alloc h1 _, ?_, Lib.hid (fun k hk hv => ?_), by go_grown⟩
    · simpa [Hid, lastE] using h2
    · simp [Value.ownBlock] at hk hv; omega
  case round =>
    obtain ⟨j, mo, co, ml, cl, AO, AL, hj, rfl, rfl, rfl, hm, hml, HO, HL, HA, hbr⟩ := hrel
    have hsr := hbr.size
    by_cases hmn : mo < n
    · have hmi : (mo : Int) < (n : Int) := by omega
      have hj5 : j ≤ 300 := by have := hm.out; omega
      have IBr := Lib.hid (IB.out.stays hbr)
      have KBr := Lib.hid (KB.out.stays hbr)
      have hcb : [UInt8.ofNat (j + 1)].map byteV = [Value.int .u8 ((j : Int) + 1)] := by
        have h := cnt_byte (j + 1) (by omega)
        rw [Int.natCast_add] at h
        rw [List.map_cons, List.map_nil, ← h]
        rfl
      have f3 := bytes_lit (w := wr) (E := 5) (n := 1) [UInt8.ofNat (j + 1)] #[.int .u8 ((j : Int) + 1)] (by rw [hcb]) rfl (by decide)
      have kk : Below wr.heap.size wr (wr.alloc (.cells #[.int .u8 ((j : Int) + 1)] 5)) := (Below.refl _ _).alloc (Nat.le_refl _) _
      have f1 : Bytes wr AL ml cl (lastE key info j) := own_rd HL.out
      have F1 := Lib.hid (f1.stays kk)
      have F2 := Lib.hid (IBr.out.stays kk)
      have F3 := Lib.hid f3
      have l1 := f1.len
      have l2 := IBr.out.len
      obtain ⟨X, hX⟩ : ∃ X, X = lastE key info j ++ info ++ [UInt8.ofNat (j + 1)] := ⟨_, rfl⟩
      have HX : Hid (lastE key info (j + 1) = macL key X) := by unfold Hid; rw [lastE, hX]
      have HX2 : Hid ([lastE key info j, info, [UInt8.ofNat (j + 1)]].flatten = X) := by unfold Hid; rw [hX]; simp only [List.flatten_cons, List.flatten_nil, List.append_nil, List.append_assoc]
      have HX3 : Hid ([lastE key info j, info, [UInt8.ofNat (j + 1)]].flatten.length = ml + ni + 1) := by unfold Hid; rw [HX2.out, hX]; simp only [List.length_append, l1, l2, List.length_cons, List.length_nil]
      have hL := lists_made3 (E := 22) F1.out F2.out F3.out
      rw [show (wr.alloc (.cells #[.int .u8 ((j : Int) + 1)] 5)).heap.size = wr.heap.size + 1 by simp] at hL
      have HLL := Lib.hid hL
      clear hcb hX f1 f3 kk l1 l2 HL hL
      go_wp2_with fail
      refine (refJoin_any _ _ _ [lastE key info j, info, [UInt8.ofNat (j + 1)]] _ HLL.out (ml + ni + 1) HX3.out (by omega)).mono ?_
      rintro e wq ⟨Aq, cq, rfl, hv, hb⟩
      have hbx : Below wr.heap.size wr wq := below_via (by go_grown) hb (by first | (simp; done) | (simp; omega))
      have OQ := Lib.hid (own_below HO.out hbx)
      have KBq := Lib.hid (KBr.out.stays hbx)
      have Rq := hbr.trans (hbx.mono hsr)
      have hsq := Rq.size
      have hsqr := hbx.size
      have HOlt : Hid (∀ k, (Value.slice AO mo co).ownBlock = some k → k < wr.heap.size) := fun k hk => (HO.out.lt k hk).2
      have BQ : Hid (Bytes wq Aq (ml + ni + 1) cq X) := by
        have := own_rd hv
        rw [HX2.out] at this
        exact this
      clear hv hb hbx HO HA IBr KBr F1 F2 F3 HX2 HX3 HLL
      go_wp2_with fail
      refine (refMac_any _ _ _ _ _ _ _ _ _ KBq.out BQ.out (by omega)).mono ?_
      rintro e ws ⟨As, cs, rfl, hv, hb⟩
      have OS := Lib.hid (own_below OQ.out hb)
      have HS := Lib.hid hv
      have Rs := Rq.trans (hb.mono hsq)
      have hss := Rs.size
      have hAs : Hid (Apart (.slice As 32 cs) (.slice AO mo co)) := (Apart.of_below (B := wq.heap.size) (fun k hk => Nat.lt_of_lt_of_le (HOlt.out k hk) (by omega)) (fun k hk => (HS.out.lt k hk).1)).symm
      clear hv hb OQ KBq BQ
      go_wp2_with (at_builtin; refine wpList_append_rd2 rfl _ _ 22 rfl i0 (.int .u8 0) 1 Try.underlying22 hi hz0 hz1 hz2 rfl (by decide) rfl OS.out rfl (own_rd HS.out) (oneCell_bytes _) ?c1 ?c2 ?c3 ?_)
      case c1 => unfold maxLen; omega
      case c2 => omega
      case c3 => first | omega | (simp; omega)
      intro At ct wt hownt hgt hbt hot
      have OT : Hid (wt.ownsRow w.heap.size 5 1 (.slice At (mo + 32) ct) (mo + 32) ((outE key info (j + 1)).map byteV)) := by
        unfold Hid
        rw [outE, List.map_append, HX.out]
        exact hownt
      have HT : Hid (wt.ownsRow w.heap.size 5 1 (.slice As 32 cs) 32 ((lastE key info (j + 1)).map byteV)) := by
        unfold Hid
        rw [HX.out]
        exact own_more (B' := w.heap.size) (HS.out.kept hgt hAs.out.kept) hsq
      have HAT : Hid (Apart (.slice At (mo + 32) ct) (.slice As 32 cs)) := (hAs.out.grew (fun k hk => (HS.out.lt k hk).2) hot).symm
      have Rt := Rs.trans hbt
      clear hownt hgt hbt hot OS HS hAs Rs
      go_wp2
      go_roundw
      case rel => exact ⟨j + 1, mo + 32, ct, 32, cs, At, As, by have := hm.out; omega, rfl, rfl, by go_num, by have := hm.out; unfold Hid; omega, by omega, OT, HT, HAT, Rt⟩
      case measure => have := hm.out; simp [intOf]; omega
    · have hmi : ¬ (mo : Int) < (n : Int) := by omega
      have hr : Bytes wr AO mo co (outE key info j) := own_rd HO.out
      have q5 := hr.le
      have q6 := hr.cap
      have hcut := hr.cut0 n (by omega)
      rw [expandL_of key info n j (by have := hm.out; omega)] at hcut
      have HC := Lib.hid hcut
      clear hcut hr
      go_wp2
      go_returns
      exact ⟨_, _, rfl, HC.out, hbr⟩

set_option maxRecDepth 100000 in
theorem refExpand_err (A : Option Addr) (nk c : Nat) (A2 : Option Addr) (ni c2 : Nat) (n : Int) (w : World) (hn : n < 0 ∨ 8160 < n) :
    Calls Try.prog 32 #[.slice A nk c, .slice A2 ni c2, .int .i64 n] w fun e w' => e = .returned (.tuple #[.slice none 0 0, .int .i64 4]) ∧ Below w.heap.size w w' := by
  by_cases h : n < 0
  all_goals
    go_enter Try.func32, Try.ntmps32
    first
      | (have h2 : 8160 < n := by omega
         go_wp2
         go_returns
         exact ⟨rfl, by go_grown⟩)
      | (go_wp2
         go_returns
         exact ⟨rfl, by go_grown⟩)
set_option maxHeartbeats 4000000 in
theorem extract_any (k b : List UInt8) (A : Option Addr) (n c : Nat) (A2 : Option Addr) (n2 c2 : Nat) (w : World) (hk : Bytes w A n c k) (hb : Bytes w A2 n2 c2 b) (hn2 : n2 ≤ 1000000) :
    Calls Try.prog 24 #[.slice A n c, .slice A2 n2 c2] w fun e w' => ∃ A' c', e = .returned (.slice A' 32 c') ∧ Bytes w' A' 32 c' (macL k b) ∧ Below w.heap.size w w' := by
  have KB := Lib.hid hk
  have BB := Lib.hid hb
  clear hk hb
  go_enter Try.func24, Try.ntmps24
  go_wp2_with fail
  refine (mac_any _ _ _ _ _ _ _ _ _ KB.out BB.out (by omega)).mono ?_
  rintro e w1 ⟨A1, c1, rfl, hv, hb⟩
  have V1 : Hid (Bytes w1 A1 32 c1 (macL k b)) := own_rd hv
  clear hv
  go_wp2
  go_ret
  exact ⟨_, _, rfl, V1.out, hb⟩
set_option maxHeartbeats 4000000 in
theorem refExtract_any (k b : List UInt8) (A : Option Addr) (n c : Nat) (A2 : Option Addr) (n2 c2 : Nat) (w : World) (hk : Bytes w A n c k) (hb : Bytes w A2 n2 c2 b) (hn2 : n2 ≤ 1000000) :
    Calls Try.prog 35 #[.slice A n c, .slice A2 n2 c2] w fun e w' => ∃ A' c', e = .returned (.slice A' 32 c') ∧ Bytes w' A' 32 c' (macL k b) ∧ Below w.heap.size w w' := by
  have KB := Lib.hid hk
  have BB := Lib.hid hb
  clear hk hb
  go_enter Try.func35, Try.ntmps35
  go_wp2_with fail
  refine (refMac_any _ _ _ _ _ _ _ _ _ KB.out BB.out (by omega)).mono ?_
  rintro e w1 ⟨A1, c1, rfl, hv, hb⟩
  have V1 : Hid (Bytes w1 A1 32 c1 (macL k b)) := own_rd hv
  clear hv
  go_wp2
  go_ret
  exact ⟨_, _, rfl, V1.out, hb⟩
set_option maxHeartbeats 4000000 in
theorem derive_any (s k i : List UInt8) (A : Option Addr) (n c : Nat) (A2 : Option Addr) (n2 c2 : Nat) (A3 : Option Addr) (n3 c3 m : Nat) (w : World) (hs : Bytes w A n c s) (hk : Bytes w A2 n2 c2 k) (hi2 : Bytes w A3 n3 c3 i) (hn2 : n2 ≤ 1000000) (hn3 : n3 ≤ 100000) (hm : m ≤ 8000) :
    Calls Try.prog 33 #[.slice A n c, .slice A2 n2 c2, .slice A3 n3 c3, .int .i64 m] w fun e w' => ∃ A' c', e = .returned (.tuple #[.slice A' m c', .int .i64 0]) ∧ Bytes w' A' m c' (expandL (macL s k) i m) ∧ Below w.heap.size w w' := by
  have SB := Lib.hid hs
  have KB := Lib.hid hk
  have IB := Lib.hid hi2
  clear hs hk hi2
  go_enter Try.func33, Try.ntmps33
  go_wp2_with fail
  refine (extract_any _ _ _ _ _ _ _ _ _ SB.out KB.out (by omega)).mono ?_
  rintro e w1 ⟨A1, c1, rfl, hv, hb⟩
  have V1 := Lib.hid hv
  have IB := Lib.hid (IB.out.stays hb)
  have R1 := Lib.hid hb
  have hs1 := hb.size
  clear hv hb SB KB
  go_wp2_with fail
  refine (expand_any _ _ _ _ _ _ _ _ m _ V1.out IB.out (by omega) (by omega)).mono ?_
  rintro e w2 ⟨A2', rfl, hv, hb⟩
  have V2 := Lib.hid hv
  have R2 := Lib.hid (R1.out.trans (hb.mono hs1))
  clear hv hb
  go_wp2
  go_returns
  exact ⟨_, _, rfl, V2.out, R2.out⟩
set_option maxHeartbeats 4000000 in
theorem derive_err (s k : List UInt8) (A : Option Addr) (n c : Nat) (A2 : Option Addr) (n2 c2 : Nat) (A3 : Option Addr) (n3 c3 : Nat) (m : Int) (w : World) (hs : Bytes w A n c s) (hk : Bytes w A2 n2 c2 k) (hn2 : n2 ≤ 1000000) (hm : m < 0 ∨ 8160 < m) :
    Calls Try.prog 33 #[.slice A n c, .slice A2 n2 c2, .slice A3 n3 c3, .int .i64 m] w fun e w' => e = .returned (.tuple #[.slice none 0 0, .int .i64 4]) ∧ Below w.heap.size w w' := by
  have SB := Lib.hid hs
  have KB := Lib.hid hk
  have HM := Lib.hid hm
  clear hs hk hm
  go_enter Try.func33, Try.ntmps33
  go_wp2_with fail
  refine (extract_any _ _ _ _ _ _ _ _ _ SB.out KB.out (by omega)).mono ?_
  rintro e w1 ⟨A1, c1, rfl, hv, hb⟩
  have R1 := Lib.hid hb
  have hs1 := hb.size
  clear hv hb SB KB
  go_wp2_with fail
  refine (expand_err _ _ _ _ _ _ _ _ HM.out).mono ?_
  rintro e w2 ⟨rfl, hb⟩
  have R2 := Lib.hid (R1.out.trans (hb.mono hs1))
  clear hb
  go_wp2
  go_returns
  exact ⟨rfl, R2.out⟩
set_option maxHeartbeats 4000000 in
theorem refDerive_any (s k i : List UInt8) (A : Option Addr) (n c : Nat) (A2 : Option Addr) (n2 c2 : Nat) (A3 : Option Addr) (n3 c3 m : Nat) (w : World) (hs : Bytes w A n c s) (hk : Bytes w A2 n2 c2 k) (hi2 : Bytes w A3 n3 c3 i) (hn2 : n2 ≤ 1000000) (hn3 : n3 ≤ 100000) (hm : m ≤ 8000) :
    Calls Try.prog 34 #[.slice A n c, .slice A2 n2 c2, .slice A3 n3 c3, .int .i64 m] w fun e w' => ∃ A' c', e = .returned (.tuple #[.slice A' m c', .int .i64 0]) ∧ Bytes w' A' m c' (expandL (macL s k) i m) ∧ Below w.heap.size w w' := by
  have SB := Lib.hid hs
  have KB := Lib.hid hk
  have IB := Lib.hid hi2
  clear hs hk hi2
  go_enter Try.func34, Try.ntmps34
  go_wp2_with fail
  refine (refExtract_any _ _ _ _ _ _ _ _ _ SB.out KB.out (by omega)).mono ?_
  rintro e w1 ⟨A1, c1, rfl, hv, hb⟩
  have V1 := Lib.hid hv
  have IB := Lib.hid (IB.out.stays hb)
  have R1 := Lib.hid hb
  have hs1 := hb.size
  clear hv hb SB KB
  go_wp2_with fail
  refine (refExpand_any _ _ _ _ _ _ _ _ m _ V1.out IB.out (by omega) (by omega)).mono ?_
  rintro e w2 ⟨A2', c2', rfl, hv, hb⟩
  have V2 := Lib.hid hv
  have R2 := Lib.hid (R1.out.trans (hb.mono hs1))
  clear hv hb
  go_wp2
  go_returns
  exact ⟨_, _, rfl, V2.out, R2.out⟩
set_option maxHeartbeats 4000000 in
theorem refDerive_err (s k : List UInt8) (A : Option Addr) (n c : Nat) (A2 : Option Addr) (n2 c2 : Nat) (A3 : Option Addr) (n3 c3 : Nat) (m : Int) (w : World) (hs : Bytes w A n c s) (hk : Bytes w A2 n2 c2 k) (hn2 : n2 ≤ 1000000) (hm : m < 0 ∨ 8160 < m) :
    Calls Try.prog 34 #[.slice A n c, .slice A2 n2 c2, .slice A3 n3 c3, .int .i64 m] w fun e w' => e = .returned (.tuple #[.slice none 0 0, .int .i64 4]) ∧ Below w.heap.size w w' := by
  have SB := Lib.hid hs
  have KB := Lib.hid hk
  have HM := Lib.hid hm
  clear hs hk hm
  go_enter Try.func34, Try.ntmps34
  go_wp2_with fail
  refine (refExtract_any _ _ _ _ _ _ _ _ _ SB.out KB.out (by omega)).mono ?_
  rintro e w1 ⟨A1, c1, rfl, hv, hb⟩
  have R1 := Lib.hid hb
  have hs1 := hb.size
  clear hv hb SB KB
  go_wp2_with fail
  refine (refExpand_err _ _ _ _ _ _ _ _ HM.out).mono ?_
  rintro e w2 ⟨rfl, hb⟩
  have R2 := Lib.hid (R1.out.trans (hb.mono hs1))
  clear hb
  go_wp2
  go_returns
  exact ⟨rfl, R2.out⟩

/-- A text has a byte 0. -/
def zeroB (s : ByteArray) : Bool := s.data.toList.contains 0
theorem zeroB_at (s : ByteArray) (j : Nat) (h : j < s.size) (h0 : s[j] = 0) : zeroB s = true := by
  have hm : s.data[j] ∈ s.data.toList := by rw [Array.mem_toList_iff]; exact Array.getElem_mem _
  have h1 : s.data[j] = 0 := h0
  rw [h1] at hm
  simpa [zeroB] using hm
theorem zeroB_none (s : ByteArray) (h : ∀ i (h : i < s.size), s[i] ≠ 0) : zeroB s = false := by
  unfold zeroB
  rw [List.contains_eq_mem]
  refine decide_eq_false fun hm => ?_
  rw [Array.mem_toList_iff] at hm
  obtain ⟨i, hi, e⟩ := Array.mem_iff_getElem.1 hm
  exact h i hi e
set_option maxHeartbeats 4000000 in
theorem zero_any (s : ByteArray) (w : World) (hs : s.size ≤ 1000) :
    Calls Try.prog 29 #[.string s] w fun e w' => e = .returned (.bool (zeroB s)) ∧ w = w' := by
  go_enter Try.func29, Try.ntmps29
  go_wp2
  go_loop [3] (fun i => ∃ j : Nat, j ≤ s.size ∧ i = .int .i64 j ∧ Hid (∀ i (h : i < s.size), i < j → s[i] ≠ 0)) (fun i => s.size - (intOf i).toNat)
  case atStart => exact ⟨0, Nat.zero_le _, rfl, fun i _ h => by omega⟩
  case round =>
    obtain ⟨j, hj, rfl, hz⟩ := hrel
    by_cases hjk : j < s.size
    · have hji : (j : Int) < (s.size : Int) := by omega
      by_cases h0 : s[j] = 0
      · have HZ := Lib.hid (zeroB_at s j hjk h0)
        go_wp2
        go_ret
        exact ⟨by rw [HZ.out]; rfl, rfl⟩
      · have hne : ((s[j].toNat : Int) == 0) = false := by
          have : s[j].toNat ≠ 0 := fun h => h0 (UInt8.toNat_inj.mp (by simpa using h))
          simp; exact this
        have HN : Hid (s[j] ≠ 0) := h0
        clear h0
        go_wp2
        go_round
        case rel =>
          refine ⟨j + 1, by omega, by go_num, fun i h hi => ?_⟩
          by_cases e : i = j
          · subst e; exact HN.out
          · exact hz.out i h (by omega)
        case measure => simp [intOf]; omega
    · have hji : ¬ (j : Int) < (s.size : Int) := by omega
      go_wp2
      go_ret
      exact ⟨by rw [zeroB_none s (fun i h => hz.out i h (by omega))]; rfl, rfl⟩
end Go.Proofs.Yticknkaohjkjpaa
