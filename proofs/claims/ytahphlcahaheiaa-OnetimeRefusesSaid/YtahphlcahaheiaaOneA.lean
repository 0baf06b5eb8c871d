/- onetime: valid, begin, Secret, and their references. -/
import Derived.Test.YtahphlcahaheiaaOneL
import Derived.Test.YtahphlcahaheiaaHashF
import Derived.Test.YtahphlcahaheiaaJoinO
import Derived.Test.YtahphlcahaheiaaRefJoin
import Derived.Test.YtahphlcahaheiaaPut
namespace Go.Proofs.Ytahphlcahaheiaa
open Go.RowKit

/-- The error of a seed of n bytes and an index. -/
def validE (n : Nat) (i : Int) : Int := if n ≠ 32 then 5 else if i < 0 ∨ 2147483647 < i then 4 else 0
theorem validE_zero {n : Nat} {i : Int} (h : validE n i = 0) : n = 32 ∧ 0 ≤ i ∧ i ≤ 2147483647 := by
  unfold validE at h
  by_cases h1 : n ≠ 32
  · rw [if_pos h1] at h; omega
  · rw [if_neg h1] at h
    by_cases h2 : i < 0 ∨ 2147483647 < i
    · rw [if_pos h2] at h; omega
    · omega
theorem one_byte (c : Nat) (h : c < 256) : Value.int .u8 (c : Int) = byteV (UInt8.ofNat c) := by simp [byteV, Nat.mod_eq_of_lt h]
theorem one_lit {w : World} {E : Nat} (c : Nat) (h : c < 256) : Bytes (w.alloc (.cells #[.int .u8 (c : Int)] E)) (some ⟨w.heap.size, 0, none⟩) 1 1 [UInt8.ofNat c] := by
  have := Bytes.made (w := w) (l := [UInt8.ofNat c]) (E := E) (by simp [maxLen])
  simpa [one_byte c h] using this
theorem valid_any (A : Option Addr) (n c : Nat) (i : Int) (w : World) :
    Calls Try.prog 62 #[.slice A n c, .int .i64 i] w fun e w' => e = .returned (.int .i64 (validE n i)) ∧ w = w' := by
  unfold validE
  by_cases hn : n = 32
  · subst hn
    rw [if_neg (by omega)]
    by_cases h1 : i < 0
    · rw [if_pos (.inl h1)]
      go_enter Try.func62, Try.ntmps62
      go_wp2
      go_ret
      exact ⟨rfl, rfl⟩
    · by_cases h2 : 2147483647 < i
      · rw [if_pos (.inr h2)]
        go_enter Try.func62, Try.ntmps62
        go_wp2
        go_ret
        exact ⟨rfl, rfl⟩
      · rw [if_neg (by omega)]
        go_enter Try.func62, Try.ntmps62
        go_wp2
        go_ret
        exact ⟨rfl, rfl⟩
  · have hni : ¬ (n : Int) = 32 := by omega
    rw [if_pos hn]
    have HN := Lib.hid hn
    clear hn
    go_enter Try.func62, Try.ntmps62
    go_wp2
    go_ret
    exact ⟨rfl, rfl⟩
theorem valid_is {A : Option Addr} {n c : Nat} {i v : Int} {w : World} (h : validE n i = v) :
    Calls Try.prog 62 #[.slice A n c, .int .i64 i] w fun e w' => e = .returned (.int .i64 v) ∧ w = w' := by
  subst h; exact valid_any A n c i w
theorem check_any (A : Option Addr) (n c : Nat) (i : Int) (w : World) :
    Calls Try.prog 58 #[.slice A n c, .int .i64 i] w fun e w' => e = .returned (.int .i64 (validE n i)) ∧ w = w' := by
  unfold validE
  by_cases hn : n = 32
  · subst hn
    rw [if_neg (by omega)]
    by_cases h1 : i < 0
    · rw [if_pos (.inl h1)]
      go_enter Try.func58, Try.ntmps58
      go_wp2
      go_ret
      exact ⟨rfl, rfl⟩
    · by_cases h2 : 2147483647 < i
      · rw [if_pos (.inr h2)]
        go_enter Try.func58, Try.ntmps58
        go_wp2
        go_ret
        exact ⟨rfl, rfl⟩
      · rw [if_neg (by omega)]
        go_enter Try.func58, Try.ntmps58
        go_wp2
        go_ret
        exact ⟨rfl, rfl⟩
  · have hni : ¬ (n : Int) = 32 := by omega
    rw [if_pos hn]
    have HN := Lib.hid hn
    clear hn
    go_enter Try.func58, Try.ntmps58
    go_wp2
    go_ret
    exact ⟨rfl, rfl⟩
theorem check_is {A : Option Addr} {n c : Nat} {i v : Int} {w : World} (h : validE n i = v) :
    Calls Try.prog 58 #[.slice A n c, .int .i64 i] w fun e w' => e = .returned (.int .i64 v) ∧ w = w' := by
  subst h; exact check_any A n c i w
set_option maxRecDepth 100000 in
set_option maxHeartbeats 4000000 in
theorem begin_any (seed : List UInt8) (A : Option Addr) (c i k : Nat) (w : World) (hs : Bytes w A 32 c seed) (hi : i ≤ 2147483647) (hk : k < 35) :
    Calls Try.prog 63 #[.slice A 32 c, .int .i64 i, .int .i64 k] w fun e w' => ∃ A' c', e = .returned (.slice A' 16 c') ∧ Bytes w' A' 16 c' (beginL seed i k) ∧ Fresh w.heap.size A' ∧ Below w.heap.size w w' := by
  have HS := Lib.hid hs.len
  have SB := Lib.hid hs
  have hle := hs.le
  have hcap := hs.cap
  clear hs
  have hwi : IntKind.u64.wrap (i : Int) = (i : Int) := IntWalk.u64_in _ (by omega)
  have hwc : IntKind.u8.wrap (k : Int) = (k : Int) := IntWalk.u8_in _ (by omega)
  go_enter Try.func63, Try.ntmps63
  go_wp2_with fail
  clear hwi hwc
  refine (put_reads i 4 (by omega) _).mono ?_
  rintro e w1 ⟨A1, c1, rfl, hv, hb⟩
  have kk : Below w1.heap.size w1 (w1.alloc (.cells #[.int .u8 (k : Int)] 5)) := (Below.refl _ _).alloc (Nat.le_refl _) _
  have F1 := Lib.hid ((SB.out.stays hb).stays kk)
  have F2 := Lib.hid (hv.stays kk)
  have F3 := Lib.hid (one_lit (w := w1) (E := 5) k (by omega))
  have hL := lists_made3 (E := 22) F1.out F2.out F3.out
  rw [show (w1.alloc (.cells #[.int .u8 (k : Int)] 5)).heap.size = w1.heap.size + 1 by simp] at hL
  have HLL := Lib.hid hL
  have R1 := Lib.hid hb
  have hs1 := hb.size
  have hT : Hid ([seed, putL i 4, [UInt8.ofNat k]].flatten.length = 37) := by unfold Hid; simp [HS.out, putL_length]
  clear hv hb kk F1 F2 F3 hL
  have hwc : IntKind.u8.wrap (k : Int) = (k : Int) := IntWalk.u8_in _ (by omega)
  go_wp2_with fail
  clear hwc
  refine (join_any _ _ _ [seed, putL i 4, [UInt8.ofNat k]] _ HLL.out 37 hT.out (by omega)).mono ?_
  rintro e w2 ⟨A2, c2, rfl, hv, hb⟩
  have V2 : Hid (Bytes w2 A2 37 c2 (seed ++ putL i 4 ++ [UInt8.ofNat k])) := by
    have := own_rd hv
    simpa [Hid, Bytes] using this
  have R2 := Lib.hid (R1.out.trans (below_via (B := w.heap.size) (by go_grown) hb (by simp; omega)))
  have hs2 := R2.out.size
  clear hv hb HLL
  go_wp2_with fail
  refine (short_new _ _ _ _ _ V2.out).mono ?_
  rintro e w3 ⟨A3, rfl, hv, hf, hb⟩
  have V3 := Lib.hid hv
  have F3 := Lib.hid (hf.more (B' := w.heap.size) hs2)
  have R3 := Lib.hid (R2.out.trans (hb.mono hs2))
  clear hv hf hb
  go_wp2
  go_ret
  exact ⟨_, _, rfl, V3.out, F3.out, R3.out⟩
set_option maxRecDepth 100000 in
set_option maxHeartbeats 4000000 in
theorem secret_ok (seed : List UInt8) (A : Option Addr) (c i k : Nat) (w : World) (hs : Bytes w A 32 c seed) (hi : i ≤ 2147483647) (hk : k < 35) :
    Calls Try.prog 28 #[.slice A 32 c, .int .i64 i, .int .i64 k] w fun e w' => ∃ A' c', e = .returned (.tuple #[.slice A' 16 c', .int .i64 0]) ∧ Bytes w' A' 16 c' (beginL seed i k) ∧ Fresh w.heap.size A' ∧ Below w.heap.size w w' := by
  have SB := Lib.hid hs
  clear hs
  go_enter Try.func28, Try.ntmps28
  go_wp2_with fail
  refine (valid_is (v := 0) (by unfold validE; rw [if_neg (by omega), if_neg (by omega)])).mono ?_
  rintro e wx ⟨rfl, rfl⟩
  go_wp2_with fail
  refine (begin_any seed _ _ i k _ SB.out hi hk).mono ?_
  rintro e w3 ⟨A3, c3, rfl, hv, hf, hb⟩
  have V3 := Lib.hid hv
  have F3 := Lib.hid hf
  clear hv hf
  go_wp2
  go_returns
  exact ⟨_, _, rfl, V3.out, F3.out, hb⟩
set_option maxRecDepth 100000 in
set_option maxHeartbeats 4000000 in
theorem refSecret_ok (seed : List UInt8) (A : Option Addr) (c i k : Nat) (w : World) (hs : Bytes w A 32 c seed) (hi : i ≤ 2147483647) (hk : k < 35) :
    Calls Try.prog 32 #[.slice A 32 c, .int .i64 i, .int .i64 k] w fun e w' => ∃ A' c', e = .returned (.tuple #[.slice A' 16 c', .int .i64 0]) ∧ Bytes w' A' 16 c' (beginL seed i k) ∧ Fresh w.heap.size A' ∧ Below w.heap.size w w' := by
  have HS := Lib.hid hs.len
  have SB := Lib.hid hs
  have hle := hs.le
  have hcap := hs.cap
  clear hs
  have hwi : IntKind.u64.wrap (i : Int) = (i : Int) := IntWalk.u64_in _ (by omega)
  have hwc : IntKind.u8.wrap (k : Int) = (k : Int) := IntWalk.u8_in _ (by omega)
  go_enter Try.func32, Try.ntmps32
  go_wp2_with fail
  refine (check_is (v := 0) (by unfold validE; rw [if_neg (by omega), if_neg (by omega)])).mono ?_
  rintro e wx ⟨rfl, rfl⟩
  go_wp2_with fail
  clear hwi hwc
  refine (refPut_reads i 4 (by omega) _).mono ?_
  rintro e w1 ⟨A1, c1, rfl, hv, hb⟩
  have kk : Below w1.heap.size w1 (w1.alloc (.cells #[.int .u8 (k : Int)] 5)) := (Below.refl _ _).alloc (Nat.le_refl _) _
  have F1 := Lib.hid ((SB.out.stays hb).stays kk)
  have F2 := Lib.hid (hv.stays kk)
  have F3 := Lib.hid (one_lit (w := w1) (E := 5) k (by omega))
  have hL := lists_made3 (E := 22) F1.out F2.out F3.out
  rw [show (w1.alloc (.cells #[.int .u8 (k : Int)] 5)).heap.size = w1.heap.size + 1 by simp] at hL
  have HLL := Lib.hid hL
  have R1 := Lib.hid hb
  have hs1 := hb.size
  have hT : Hid ([seed, putL i 4, [UInt8.ofNat k]].flatten.length = 37) := by unfold Hid; simp [HS.out, putL_length]
  clear hv hb kk F1 F2 F3 hL
  have hwc : IntKind.u8.wrap (k : Int) = (k : Int) := IntWalk.u8_in _ (by omega)
  go_wp2_with fail
  clear hwc
  refine (refJoin_any _ _ _ [seed, putL i 4, [UInt8.ofNat k]] _ HLL.out 37 hT.out (by omega)).mono ?_
  rintro e w2 ⟨A2, c2, rfl, hv, hb⟩
  have V2 : Hid (Bytes w2 A2 37 c2 (seed ++ putL i 4 ++ [UInt8.ofNat k])) := by
    have := own_rd hv
    simpa [Hid, Bytes] using this
  have R2 := Lib.hid (R1.out.trans (below_via (B := w.heap.size) (by go_grown) hb (by simp; omega)))
  have hs2 := R2.out.size
  clear hv hb HLL
  go_wp2_with fail
  refine (refShort_new _ _ _ _ _ V2.out).mono ?_
  rintro e w3 ⟨A3, c3, rfl, hv, hf, hb⟩
  have V3 := Lib.hid hv
  have F3 := Lib.hid (hf.more (B' := w.heap.size) hs2)
  have R3 := Lib.hid (R2.out.trans (hb.mono hs2))
  clear hv hf hb
  go_wp2
  go_returns
  exact ⟨_, _, rfl, V3.out, F3.out, R3.out⟩
set_option maxRecDepth 100000 in
set_option maxHeartbeats 4000000 in
theorem secret_err (A : Option Addr) (n c : Nat) (i k v : Int) (w : World) (hv : validE n i = v) (h : v ≠ 0 ∨ k < 0 ∨ 35 ≤ k) :
    Calls Try.prog 28 #[.slice A n c, .int .i64 i, .int .i64 k] w fun e w' => e = .returned (.tuple #[.slice none 0 0, .int .i64 (if v ≠ 0 then v else 4)]) ∧ Below w.heap.size w w' := by
  by_cases h0 : v = 0
  · subst h0
    rw [if_neg (by omega)]
    have HV := Lib.hid hv
    clear hv
    by_cases h1 : k < 0
    · go_enter Try.func28, Try.ntmps28
      go_wp2_with fail
      refine (valid_is HV.out).mono ?_
      rintro e wx ⟨rfl, rfl⟩
      go_wp2
      go_returns
      exact ⟨rfl, by go_grown⟩
    · have h2 : 35 ≤ k := by omega
      clear h
      go_enter Try.func28, Try.ntmps28
      go_wp2_with fail
      refine (valid_is HV.out).mono ?_
      rintro e wx ⟨rfl, rfl⟩
      go_wp2
      go_returns
      exact ⟨rfl, by go_grown⟩
  · rw [if_pos h0]
    have HV := Lib.hid hv
    have hb : (v == 0) = false := by simpa using h0
    have hb2 : (v != 0) = true := by simp [bne, hb]
    clear hv h h0
    go_enter Try.func28, Try.ntmps28
    go_wp2_with fail
    refine (valid_is HV.out).mono ?_
    rintro e wx ⟨rfl, rfl⟩
    go_wp2
    go_returns
    exact ⟨rfl, by go_grown⟩
set_option maxRecDepth 100000 in
set_option maxHeartbeats 4000000 in
theorem refSecret_err (A : Option Addr) (n c : Nat) (i k v : Int) (w : World) (hv : validE n i = v) (h : v ≠ 0 ∨ k < 0 ∨ 35 ≤ k) :
    Calls Try.prog 32 #[.slice A n c, .int .i64 i, .int .i64 k] w fun e w' => e = .returned (.tuple #[.slice none 0 0, .int .i64 (if v ≠ 0 then v else 4)]) ∧ Below w.heap.size w w' := by
  by_cases h0 : v = 0
  · subst h0
    rw [if_neg (by omega)]
    have HV := Lib.hid hv
    clear hv
    by_cases h1 : k < 0
    · go_enter Try.func32, Try.ntmps32
      go_wp2_with fail
      refine (check_is HV.out).mono ?_
      rintro e wx ⟨rfl, rfl⟩
      go_wp2
      go_returns
      exact ⟨rfl, by go_grown⟩
    · have h2 : 35 ≤ k := by omega
      clear h
      go_enter Try.func32, Try.ntmps32
      go_wp2_with fail
      refine (check_is HV.out).mono ?_
      rintro e wx ⟨rfl, rfl⟩
      go_wp2
      go_returns
      exact ⟨rfl, by go_grown⟩
  · rw [if_pos h0]
    have HV := Lib.hid hv
    have hb : (v == 0) = false := by simpa using h0
    have hb2 : (v != 0) = true := by simp [bne, hb]
    clear hv h h0
    go_enter Try.func32, Try.ntmps32
    go_wp2_with fail
    refine (check_is HV.out).mono ?_
    rintro e wx ⟨rfl, rfl⟩
    go_wp2
    go_returns
    exact ⟨rfl, by go_grown⟩
end Go.Proofs.Ytahphlcahaheiaa
