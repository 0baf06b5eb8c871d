/- packet.Encode: the bytes of a header. -/
import Derived.Test.YtnpfndlmbaafaaaPkA
import Derived.Test.YtnpfndlmbaafaaaPut
import Derived.Test.YtnpfndlmbaafaaaApp
namespace Go.Proofs.Ytnpfndlmbaafaaa
open Go.RowKit

/-- The bytes of a header. -/
def hdHead (l v m s : Nat) (p q : Int) : List UInt8 := [UInt8.ofNat (l * 64 + v * 8 + m), UInt8.ofNat s, UInt8.ofNat (p % 256).toNat, UInt8.ofNat (q % 256).toNat]
def hdBytes (l v m s : Nat) (p q : Int) (h6 h7 h8 h9 h10 h11 h12 : Nat) : List UInt8 :=
  hdHead l v m s p q ++ putL h6 4 ++ putL h7 4 ++ putL h8 4 ++ putL h9 8 ++ putL h10 8 ++ putL h11 8 ++ putL h12 8
theorem first_bits : ∀ l < 4, ∀ v < 8, ∀ m < 8, bits .or .i64 (bits .or .i64 ((l : Nat) * 64 : Int) ((v : Nat) * 8 : Int)) ((m : Nat) : Int) = ((l * 64 + v * 8 + m : Nat) : Int) := by decide +kernel

theorem byteV_nat (n : Nat) (h : n < 256) : byteV (UInt8.ofNat n) = .int .u8 n := by simp [byteV, Nat.mod_eq_of_lt h]
theorem byteV_int (x : Int) (h0 : 0 ≤ x) (h : x < 256) : byteV (UInt8.ofNat x.toNat) = .int .u8 x := by rw [byteV_nat _ (by omega)]; congr 1; omega
theorem hdHead_cells (l v m s : Nat) (p q : Int) (h1 : l ≤ 3) (h2 : v ≤ 4) (h3 : m ≤ 7) (h4 : s ≤ 255) : (hdHead l v m s p q).map byteV = [.int .u8 (l * 64 + v * 8 + m), .int .u8 s, .int .u8 (p % 256), .int .u8 (q % 256)] := by
  have e : ((l * 64 + v * 8 + m : Nat) : Int) = (l : Int) * 64 + (v : Int) * 8 + (m : Int) := by omega
  simp only [hdHead, List.map_cons, List.map_nil]
  rw [byteV_nat _ (by omega), byteV_nat _ (by omega), byteV_int _ (by omega) (by omega), byteV_int _ (by omega) (by omega), e]

set_option maxRecDepth 100000 in
set_option maxHeartbeats 4000000 in
theorem encode_ok (l v m s : Nat) (p q : Int) (h6 h7 h8 h9 h10 h11 h12 : Nat) (w : World) (h : HdOk l v m s p q) (z6 : h6 < 4294967296) (z7 : h7 < 4294967296) (z8 : h8 < 4294967296) (z9 : h9 < 18446744073709551616) (z10 : h10 < 18446744073709551616) (z11 : h11 < 18446744073709551616) (z12 : h12 < 18446744073709551616) :
    Calls Try.prog 28 #[.agg #[.int .i64 l, .int .i64 v, .int .i64 m, .int .i64 s, .int .i64 p, .int .i64 q, .int .u32 h6, .int .u32 h7, .int .u32 h8, .int .u64 h9, .int .u64 h10, .int .u64 h11, .int .u64 h12]] w
      fun e w' => ∃ A c, e = .returned (.tuple #[.slice A 48 c, .int .i64 0]) ∧ Bytes w' A 48 c (hdBytes l v m s p q h6 h7 h8 h9 h10 h11 h12) ∧ Below w.heap.size w w' := by
  have H := Lib.hid h
  obtain ⟨⟨a0, b0⟩, ⟨a1, b1⟩, ⟨a2, b2⟩, ⟨a3, b3⟩, ⟨a4, b4⟩, ⟨a5, b5⟩⟩ := h
  have hbits := first_bits l (by omega) v (by omega) m (by omega)
  obtain ⟨i0, hi, hz0, hz1, hz2⟩ := info_parts infoByteA
  go_enter Try.func28, Try.ntmps28
  go_wp2_with fail
  refine (valid_ok _ _ _ _ _ _ _ _ _ _ _ _ _ _ H.out).mono ?_
  rintro e w1 ⟨rfl, hb1⟩
  obtain ⟨hc1, hf1, hs1⟩ := below_reads hb1
  have hz : w.heap.size < w1.heap.size := by simp at hs1; omega
  have R0 : Below w.heap.size w w1 := below_via (by go_grown) hb1 (by simp)
  clear hb1
  go_wp2_with fail
  have hsz := hs1
  have hd := Lib.hid (hdHead_cells l v m s p q (by omega) (by omega) (by omega) (by omega))
  go_loopw [5, 7, 43] (fun out x i wr => ∃ (k n cc : Nat) (AA : Option Addr) (L : List UInt8), k ≤ 3 ∧ i = .int .i64 k ∧ out = .slice AA n cc ∧ Hid (n = 4 + 4 * k) ∧ Hid (L = hdHead l v m s p q ++ (([h6, h7, h8].take k).map (putL · 4)).flatten) ∧
      wr.ownsRow w1.heap.size 5 1 (.slice AA n cc) n (L.map byteV) ∧ Below w1.heap.size w1 wr) (fun _ _ i _ => 3 - (intOf i).toNat)
  case atStart =>
    refine ⟨0, 4, _, _, hdHead l v m s p q, by omega, rfl, rfl, rfl, by simp [Hid], ?_, by go_grown⟩
    have := World.ownsRow_lit (base := w1.heap.size) (e := 5) (size := 1) w1 #[.int .u8 (l * 64 + v * 8 + m), .int .u8 s, .int .u8 (p % 256), .int .u8 (q % 256)] 4 (Nat.le_refl _) (by decide) rfl
    rw [hd.out]
    exact this
  case round =>
    obtain ⟨k, n, cc, AA, L, hk, rfl, rfl, hn, hL, hown, hbr⟩ := hrel
    have hsr := hbr.size
    by_cases hk3 : k < 3
    · have HO := Lib.hid hown
      clear hown
      obtain ⟨x, hx, hx32, hxr⟩ : ∃ x : Nat, Hid ((([h6, h7, h8].take (k + 1)).map (putL · 4)).flatten = (([h6, h7, h8].take k).map (putL · 4)).flatten ++ putL x 4) ∧ x < 4294967296 ∧ ∀ W : World, (Instr.index 97 (.agg #[.int .u32 h6, .int .u32 h7, .int .u32 h8]) (.int .i64 k)).run Try.prog W = .ok (.int .u32 x) W := by
        match k, hk3 with
        | 0, _ => exact ⟨h6, by simp [Hid], by omega, fun _ => by kernel_rfl⟩
        | 1, _ => exact ⟨h7, by simp [Hid], by omega, fun _ => by kernel_rfl⟩
        | 2, _ => exact ⟨h8, by simp [Hid], by omega, fun _ => by kernel_rfl⟩
      go_wp2_with fail
      refine (put_reads x 4 (by omega) _).mono ?_
      rintro e w2 ⟨Ap, cp, rfl, hp, hb2⟩
      have HO2 := Lib.hid (own_below HO.out hb2)
      have HP := Lib.hid hp
      have hs2 := hb2.size
      have hbr2 := hbr.trans (hb2.mono hsr)
      clear HO hp hb2
      have hn' : n ≤ 100 := by have := hn.out; omega
      go_wp2_with (at_builtin; refine wpList_append_rd rfl _ _ 52 rfl i0 (.int .u8 0) 1 Try.underlying52 hi hz0 hz1 hz2 rfl (by decide) rfl HO2.out rfl HP.out (oneCell_bytes _) ?c1 ?c2 ?c3 ?_)
      case c1 => unfold maxLen; omega
      case c2 => omega
      case c3 => omega
      intro A8 c8 w8 hown8 hg8 hb8
      have H8 := Lib.hid hown8
      have hb9 := hbr2.trans hb8
      clear hown8 hg8 hb8
      go_wp2
      go_roundw
      case rel =>
        refine ⟨k + 1, n + 4, _, _, L ++ putL x 4, by omega, by go_num, rfl, by have := hn.out; unfold Hid; omega, by unfold Hid; rw [hL.out, hx.out, List.append_assoc], ?_, hb9⟩
        rw [List.map_append]
        exact H8.out
      case measure => simp [intOf]; omega
    · obtain rfl : k = 3 := by omega
      obtain rfl : n = 16 := hn.out
      have HO := Lib.hid hown
      clear hown hn
      obtain ⟨hc2, hf2, hs2⟩ := below_reads hbr
      have e3 : ((3 : Nat) : Int) = 3 := rfl
      rw [e3]
      clear e3
      go_wp2_with fail
      go_loopw [5, 9, 61] (fun out x i wz => ∃ (k n cc : Nat) (AA : Option Addr) (L : List UInt8), k ≤ 4 ∧ i = .int .i64 k ∧ out = .slice AA n cc ∧ Hid (n = 16 + 8 * k) ∧ Hid (L = (hdHead l v m s p q ++ (([h6, h7, h8].take 3).map (putL · 4)).flatten) ++ (([h9, h10, h11, h12].take k).map (putL · 8)).flatten) ∧
          wz.ownsRow w1.heap.size 5 1 (.slice AA n cc) n (L.map byteV) ∧ Below w1.heap.size w1 wz) (fun _ _ i _ => 4 - (intOf i).toNat)
      case atStart => exact ⟨0, 16, _, _, L, by omega, rfl, rfl, rfl, by unfold Hid; rw [hL.out]; simp, HO.out, hbr⟩
      case round =>
        clear HO
        rename_i wz _
        obtain ⟨k, n, cc, AA, L, hk, rfl, rfl, hn, hL, hown, hbr⟩ := hrel
        have hsr := hbr.size
        by_cases hk3 : k < 4
        · have HO := Lib.hid hown
          clear hown
          obtain ⟨x, hx, hx32, hxr⟩ : ∃ x : Nat, Hid ((([h9, h10, h11, h12].take (k + 1)).map (putL · 8)).flatten = (([h9, h10, h11, h12].take k).map (putL · 8)).flatten ++ putL x 8) ∧ x < 18446744073709551616 ∧ ∀ W : World, (Instr.index 98 (.agg #[.int .u64 h9, .int .u64 h10, .int .u64 h11, .int .u64 h12]) (.int .i64 k)).run Try.prog W = .ok (.int .u64 x) W := by
            match k, hk3 with
            | 0, _ => exact ⟨h9, by simp [Hid], z9, fun _ => by kernel_rfl⟩
            | 1, _ => exact ⟨h10, by simp [Hid], z10, fun _ => by kernel_rfl⟩
            | 2, _ => exact ⟨h11, by simp [Hid], z11, fun _ => by kernel_rfl⟩
            | 3, _ => exact ⟨h12, by simp [Hid], z12, fun _ => by kernel_rfl⟩
          go_wp2_with fail
          refine (put_reads x 8 (by omega) _).mono ?_
          rintro e w2 ⟨Ap, cp, rfl, hp, hb2⟩
          have HO2 := Lib.hid (own_below HO.out hb2)
          have HP := Lib.hid hp
          have hs2 := hb2.size
          have hbr2 := hbr.trans (hb2.mono hsr)
          clear HO hp hb2
          have hn' : n ≤ 100 := by have := hn.out; omega
          go_wp2_with (at_builtin; refine wpList_append_rd rfl _ _ 52 rfl i0 (.int .u8 0) 1 Try.underlying52 hi hz0 hz1 hz2 rfl (by decide) rfl HO2.out rfl HP.out (oneCell_bytes _) ?c1 ?c2 ?c3 ?_)
          case c1 => unfold maxLen; omega
          case c2 => omega
          case c3 => omega
          intro A8 c8 w8 hown8 hg8 hb8
          have H8 := Lib.hid hown8
          have hb9 := hbr2.trans hb8
          clear hown8 hg8 hb8
          go_wp2
          go_roundw
          case rel =>
            refine ⟨k + 1, n + 8, _, _, L ++ putL x 8, by omega, by go_num, rfl, by have := hn.out; unfold Hid; omega, by unfold Hid; rw [hL.out, hx.out, List.append_assoc], ?_, hb9⟩
            rw [List.map_append]
            exact H8.out
          case measure => simp [intOf]; omega
        · obtain rfl : k = 4 := by omega
          obtain rfl : n = 48 := hn.out
          have HO := Lib.hid (own_rd hown)
          clear hown hn
          go_wp2
          go_ret2
          refine ⟨_, _, rfl, ?_, ?_⟩
          · have := HO.out
            rw [hL.out] at this
            simpa [hdBytes, Bytes] using this
          · exact R0.trans (hbr.mono (by omega))
end Go.Proofs.Ytnpfndlmbaafaaa
