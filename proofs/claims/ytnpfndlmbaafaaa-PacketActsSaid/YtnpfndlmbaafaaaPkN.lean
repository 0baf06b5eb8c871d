/- packet: Encode's error; Decode of Encode's bytes, Encode of Decode's header. -/
import Derived.Test.YtnpfndlmbaafaaaPkI
import Derived.Test.YtnpfndlmbaafaaaPkJ
import Derived.Test.YtnpfndlmbaafaaaPkB
namespace Go.Proofs.Ytnpfndlmbaafaaa
open Go.RowKit

set_option maxRecDepth 100000 in
set_option maxHeartbeats 4000000 in
theorem encode_bad (h0 h1 h2 h3 h4 h5 : Int) (h6 h7 h8 h9 h10 h11 h12 : Nat) (w : World) (h : ¬ HdOk h0 h1 h2 h3 h4 h5) :
    Calls Try.prog 28 #[.agg #[.int .i64 h0, .int .i64 h1, .int .i64 h2, .int .i64 h3, .int .i64 h4, .int .i64 h5, .int .u32 h6, .int .u32 h7, .int .u32 h8, .int .u64 h9, .int .u64 h10, .int .u64 h11, .int .u64 h12]] w fun e w' => e = .returned (.tuple #[.slice none 0 0, .int .i64 4]) ∧ Below w.heap.size w w' := by
  have H := Lib.hid h
  clear h
  go_enter Try.func28, Try.ntmps28
  go_wp2_with fail
  refine (valid_bad _ _ _ _ _ _ _ _ _ _ _ _ _ _ H.out).mono ?_
  rintro e w1 ⟨rfl, hb1⟩
  have R0 : Below w.heap.size w w1 := below_via (by go_grown) hb1 (by simp)
  clear hb1
  go_wp2
  go_returns
  exact ⟨rfl, by go_grown⟩
theorem dec_join (l v m s : Nat) (p q : Int) (h6 h7 h8 h9 h10 h11 h12 : Nat) (rest : List UInt8) (h : HdOk l v m s p q) (z6 : h6 < 4294967296) (z7 : h7 < 4294967296) (z8 : h8 < 4294967296) (z9 : h9 < 18446744073709551616) (z10 : h10 < 18446744073709551616) (z11 : h11 < 18446744073709551616) (z12 : h12 < 18446744073709551616) (A : Option Addr) (n c : Nat) (w : World) (hv : Bytes w A n c (hdBytes l v m s p q h6 h7 h8 h9 h10 h11 h12 ++ rest)) (hn : n ≤ 1280) (k : Nat) (hk : rest.length = k) :
    Calls Try.prog 29 #[.slice A n c] w fun e w' => ∃ A' c', e = .returned (.tuple #[.agg #[.int .i64 l, .int .i64 v, .int .i64 m, .int .i64 s, .int .i64 p, .int .i64 q, .int .u32 h6, .int .u32 h7, .int .u32 h8, .int .u64 h9, .int .u64 h10, .int .u64 h11, .int .u64 h12], .slice A' k c', .int .i64 0]) ∧ Bytes w' A' k c' rest ∧ Below w.heap.size w w' := by
  have hl := hv.len
  rw [List.length_append, hdBytes_len] at hl
  obtain ⟨e0, e1, e2, e3, e4, e5, e6, e7, e8, e9, e10, e11, e12, e13⟩ := dec_enc l v m s p q h6 h7 h8 h9 h10 h11 h12 rest h z6 z7 z8 z9 z10 z11 z12 _ rfl
  have hver : v = 3 ∨ v = 4 := by unfold HdOk at h; omega
  refine (dec_ok A n c _ w hv (by omega) hn (by rw [e1]; exact hver)).mono ?_
  intro e w' h1
  rw [e0, e1, e2, e3, e4, e5, e6, e7, e8, e9, e10, e11, e12, e13] at h1
  obtain rfl : k = n - 48 := by omega
  exact h1
theorem encode_back (b : List UInt8) (hl : 48 ≤ b.length) (hver : dcV b = 3 ∨ dcV b = 4) (w : World) :
    Calls Try.prog 28 #[.agg #[.int .i64 (dcL b), .int .i64 (dcV b), .int .i64 (dcM b), .int .i64 (byteAt b 1), .int .i64 (sgnB (byteAt b 2)), .int .i64 (sgnB (byteAt b 3)), .int .u32 (dcU b 4 4), .int .u32 (dcU b 8 4), .int .u32 (dcU b 12 4), .int .u64 (dcU b 16 8), .int .u64 (dcU b 24 8), .int .u64 (dcU b 32 8), .int .u64 (dcU b 40 8)]] w fun e w' => ∃ A c, e = .returned (.tuple #[.slice A 48 c, .int .i64 0]) ∧ Bytes w' A 48 c (b.take 48) ∧ Below w.heap.size w w' := by
  refine (encode_ok (dcL b) (dcV b) (dcM b) (byteAt b 1) (sgnB (byteAt b 2)) (sgnB (byteAt b 3)) (dcU b 4 4) (dcU b 8 4) (dcU b 12 4) (dcU b 16 8) (dcU b 24 8) (dcU b 32 8) (dcU b 40 8) w (dc_ok b hver) (dcU32_lt _ _ (by omega)) (dcU32_lt _ _ (by omega)) (dcU32_lt _ _ (by omega)) (be64_lt _ _) (be64_lt _ _) (be64_lt _ _) (be64_lt _ _)).mono ?_
  intro e w' h1
  rw [enc_dec b hl] at h1
  exact h1
end Go.Proofs.Ytnpfndlmbaafaaa
