/- Encode, Decode and Reply, of the program and of the reference, as functions of what they are given. -/
import Derived.Test.YtnpfndlmbaafaaaPkS
import Derived.Test.YtnpfndlmbaafaaaPkU
import Derived.Test.YtnpfndlmbaafaaaPkP
import Derived.Test.YtnpfndlmbaafaaaPkN
import Derived.Test.YtnpfndlmbaafaaaPkJ
import Derived.Test.YtnpfndlmbaafaaaPkD
namespace Go.Proofs.Ytnpfndlmbaafaaa
open Go.RowKit

def dcE (n : Nat) (l : List UInt8) : Int := if n < 48 then 1 else if 1280 < n then 2 else if dcV l = 3 ∨ dcV l = 4 then 0 else 3
def dcN (n : Nat) (l : List UInt8) (x : Nat) : Nat := if dcE n l = 0 then x else 0
def dcI (n : Nat) (l : List UInt8) (x : Int) : Int := if dcE n l = 0 then x else 0
def dcR (n : Nat) (l : List UInt8) : List UInt8 := if dcE n l = 0 then l.drop 48 else []
def dcT (n : Nat) (l : List UInt8) : Nat := if dcE n l = 0 then n - 48 else 0
def ryI (e x : Int) : Int := if e = 0 then x else 0
def ryN (e : Int) (x : Nat) : Nat := if e = 0 then x else 0
def encE (h0 h1 h2 h3 h4 h5 : Int) : Int := if HdOk h0 h1 h2 h3 h4 h5 then 0 else 4
def encT (h0 h1 h2 h3 h4 h5 : Int) : Nat := if HdOk h0 h1 h2 h3 h4 h5 then 48 else 0
def encL (h0 h1 h2 h3 h4 h5 : Int) (h6 h7 h8 h9 h10 h11 h12 : Nat) : List UInt8 := if HdOk h0 h1 h2 h3 h4 h5 then hdBytes h0.toNat h1.toNat h2.toNat h3.toNat h4 h5 h6 h7 h8 h9 h10 h11 h12 else []
theorem dec_any (A : Option Addr) (n c : Nat) (l : List UInt8) (w : World) (hv : Bytes w A n c l) :
    Calls Try.prog 29 #[.slice A n c] w fun e w' => ∃ A' c', e = .returned (.tuple #[.agg #[.int .i64 (dcN n l (dcL l) : Nat), .int .i64 (dcN n l (dcV l) : Nat), .int .i64 (dcN n l (dcM l) : Nat), .int .i64 (dcN n l (byteAt l 1) : Nat), .int .i64 (dcI n l (sgnB (byteAt l 2))), .int .i64 (dcI n l (sgnB (byteAt l 3))), .int .u32 (dcN n l (dcU l 4 4) : Nat), .int .u32 (dcN n l (dcU l 8 4) : Nat), .int .u32 (dcN n l (dcU l 12 4) : Nat), .int .u64 (dcN n l (dcU l 16 8) : Nat), .int .u64 (dcN n l (dcU l 24 8) : Nat), .int .u64 (dcN n l (dcU l 32 8) : Nat), .int .u64 (dcN n l (dcU l 40 8) : Nat)], .slice A' (dcT n l) c', .int .i64 (dcE n l)]) ∧ Bytes w' A' (dcT n l) c' (dcR n l) ∧ Below w.heap.size w w' := by
  by_cases h1 : n < 48
  · have e : dcE n l = 1 := if_pos h1
    simp only [dcN, dcI, dcR, dcT, e]
    refine (dec_short A n c l w hv h1).mono ?_
    rintro e w' ⟨rfl, hb⟩
    exact ⟨none, 0, rfl, Bytes.nil _ _ _ (by decide), hb⟩
  by_cases h2 : 1280 < n
  · have e : dcE n l = 2 := by unfold dcE; rw [if_neg h1, if_pos h2]
    simp only [dcN, dcI, dcR, dcT, e]
    refine (dec_long A n c l w hv h2).mono ?_
    rintro e w' ⟨rfl, hb⟩
    exact ⟨none, 0, rfl, Bytes.nil _ _ _ (by decide), hb⟩
  by_cases h3 : dcV l = 3 ∨ dcV l = 4
  · have e : dcE n l = 0 := by unfold dcE; rw [if_neg h1, if_neg h2, if_pos h3]
    simp only [dcN, dcI, dcR, dcT, e, if_true]
    refine (dec_ok A n c l w hv (by omega) (by omega) h3).mono ?_
    rintro e w' ⟨A', c', rfl, hB, hb⟩
    exact ⟨A', c', rfl, hB, hb⟩
  · have e : dcE n l = 3 := by unfold dcE; rw [if_neg h1, if_neg h2, if_neg h3]
    simp only [dcN, dcI, dcR, dcT, e]
    refine (dec_form A n c l w hv (by omega) (by omega) h3).mono ?_
    rintro e w' ⟨rfl, hb⟩
    exact ⟨none, 0, rfl, Bytes.nil _ _ _ (by decide), hb⟩
theorem refDec_any (A : Option Addr) (n c : Nat) (l : List UInt8) (w : World) (hv : Bytes w A n c l) :
    Calls Try.prog 39 #[.slice A n c] w fun e w' => ∃ A' c', e = .returned (.tuple #[.agg #[.int .i64 (dcN n l (dcL l) : Nat), .int .i64 (dcN n l (dcV l) : Nat), .int .i64 (dcN n l (dcM l) : Nat), .int .i64 (dcN n l (byteAt l 1) : Nat), .int .i64 (dcI n l (sgnB (byteAt l 2))), .int .i64 (dcI n l (sgnB (byteAt l 3))), .int .u32 (dcN n l (dcU l 4 4) : Nat), .int .u32 (dcN n l (dcU l 8 4) : Nat), .int .u32 (dcN n l (dcU l 12 4) : Nat), .int .u64 (dcN n l (dcU l 16 8) : Nat), .int .u64 (dcN n l (dcU l 24 8) : Nat), .int .u64 (dcN n l (dcU l 32 8) : Nat), .int .u64 (dcN n l (dcU l 40 8) : Nat)], .slice A' (dcT n l) c', .int .i64 (dcE n l)]) ∧ Bytes w' A' (dcT n l) c' (dcR n l) ∧ Below w.heap.size w w' := by
  by_cases h1 : n < 48
  · have e : dcE n l = 1 := if_pos h1
    simp only [dcN, dcI, dcR, dcT, e]
    refine (refDec_short A n c l w hv h1).mono ?_
    rintro e w' ⟨rfl, hb⟩
    exact ⟨none, 0, rfl, Bytes.nil _ _ _ (by decide), hb⟩
  by_cases h2 : 1280 < n
  · have e : dcE n l = 2 := by unfold dcE; rw [if_neg h1, if_pos h2]
    simp only [dcN, dcI, dcR, dcT, e]
    refine (refDec_long A n c l w hv h2).mono ?_
    rintro e w' ⟨rfl, hb⟩
    exact ⟨none, 0, rfl, Bytes.nil _ _ _ (by decide), hb⟩
  by_cases h3 : dcV l = 3 ∨ dcV l = 4
  · have e : dcE n l = 0 := by unfold dcE; rw [if_neg h1, if_neg h2, if_pos h3]
    simp only [dcN, dcI, dcR, dcT, e, if_true]
    refine (refDec_ok A n c l w hv (by omega) (by omega) h3).mono ?_
    rintro e w' ⟨A', c', rfl, hB, hb⟩
    exact ⟨A', c', rfl, hB, hb⟩
  · have e : dcE n l = 3 := by unfold dcE; rw [if_neg h1, if_neg h2, if_neg h3]
    simp only [dcN, dcI, dcR, dcT, e]
    refine (refDec_form A n c l w hv (by omega) (by omega) h3).mono ?_
    rintro e w' ⟨rfl, hb⟩
    exact ⟨none, 0, rfl, Bytes.nil _ _ _ (by decide), hb⟩
theorem enc_any (h0 h1 h2 h3 h4 h5 : Int) (h6 h7 h8 h9 h10 h11 h12 : Nat) (z6 : h6 < 4294967296) (z7 : h7 < 4294967296) (z8 : h8 < 4294967296) (z9 : h9 < 18446744073709551616) (z10 : h10 < 18446744073709551616) (z11 : h11 < 18446744073709551616) (z12 : h12 < 18446744073709551616) (w : World) :
    Calls Try.prog 28 #[.agg #[.int .i64 h0, .int .i64 h1, .int .i64 h2, .int .i64 h3, .int .i64 h4, .int .i64 h5, .int .u32 h6, .int .u32 h7, .int .u32 h8, .int .u64 h9, .int .u64 h10, .int .u64 h11, .int .u64 h12]] w fun e w' => ∃ A' c', e = .returned (.tuple #[.slice A' (encT h0 h1 h2 h3 h4 h5) c', .int .i64 (encE h0 h1 h2 h3 h4 h5)]) ∧ Bytes w' A' (encT h0 h1 h2 h3 h4 h5) c' (encL h0 h1 h2 h3 h4 h5 h6 h7 h8 h9 h10 h11 h12) ∧ Below w.heap.size w w' := by
  by_cases h : HdOk h0 h1 h2 h3 h4 h5
  · have e1 : encT h0 h1 h2 h3 h4 h5 = 48 := if_pos h
    have e2 : encE h0 h1 h2 h3 h4 h5 = 0 := if_pos h
    have e3 : encL h0 h1 h2 h3 h4 h5 h6 h7 h8 h9 h10 h11 h12 = hdBytes h0.toNat h1.toNat h2.toNat h3.toNat h4 h5 h6 h7 h8 h9 h10 h11 h12 := if_pos h
    rw [e1, e2, e3]
    have h' := h
    unfold HdOk at h'
    obtain ⟨l, rfl⟩ : ∃ l : Nat, h0 = l := ⟨h0.toNat, by omega⟩
    obtain ⟨v, rfl⟩ : ∃ l : Nat, h1 = l := ⟨h1.toNat, by omega⟩
    obtain ⟨m, rfl⟩ : ∃ l : Nat, h2 = l := ⟨h2.toNat, by omega⟩
    obtain ⟨s, rfl⟩ : ∃ l : Nat, h3 = l := ⟨h3.toNat, by omega⟩
    simp only [Int.toNat_natCast]
    refine (encode_ok l v m s h4 h5 h6 h7 h8 h9 h10 h11 h12 w h z6 z7 z8 z9 z10 z11 z12).mono ?_
    rintro e w' ⟨A', c', rfl, hB, hb⟩
    exact ⟨A', c', rfl, hB, hb⟩
  · have e1 : encT h0 h1 h2 h3 h4 h5 = 0 := if_neg h
    have e2 : encE h0 h1 h2 h3 h4 h5 = 4 := if_neg h
    have e3 : encL h0 h1 h2 h3 h4 h5 h6 h7 h8 h9 h10 h11 h12 = [] := if_neg h
    rw [e1, e2, e3]
    refine (encode_bad h0 h1 h2 h3 h4 h5 h6 h7 h8 h9 h10 h11 h12 w h).mono ?_
    rintro e w' ⟨rfl, hb⟩
    exact ⟨none, 0, rfl, Bytes.nil _ _ _ (by decide), hb⟩
theorem refEnc_any (h0 h1 h2 h3 h4 h5 : Int) (h6 h7 h8 h9 h10 h11 h12 : Nat) (z6 : h6 < 4294967296) (z7 : h7 < 4294967296) (z8 : h8 < 4294967296) (z9 : h9 < 18446744073709551616) (z10 : h10 < 18446744073709551616) (z11 : h11 < 18446744073709551616) (z12 : h12 < 18446744073709551616) (w : World) :
    Calls Try.prog 37 #[.agg #[.int .i64 h0, .int .i64 h1, .int .i64 h2, .int .i64 h3, .int .i64 h4, .int .i64 h5, .int .u32 h6, .int .u32 h7, .int .u32 h8, .int .u64 h9, .int .u64 h10, .int .u64 h11, .int .u64 h12]] w fun e w' => ∃ A' c', e = .returned (.tuple #[.slice A' (encT h0 h1 h2 h3 h4 h5) c', .int .i64 (encE h0 h1 h2 h3 h4 h5)]) ∧ Bytes w' A' (encT h0 h1 h2 h3 h4 h5) c' (encL h0 h1 h2 h3 h4 h5 h6 h7 h8 h9 h10 h11 h12) ∧ Below w.heap.size w w' := by
  by_cases h : HdOk h0 h1 h2 h3 h4 h5
  · have e1 : encT h0 h1 h2 h3 h4 h5 = 48 := if_pos h
    have e2 : encE h0 h1 h2 h3 h4 h5 = 0 := if_pos h
    have e3 : encL h0 h1 h2 h3 h4 h5 h6 h7 h8 h9 h10 h11 h12 = hdBytes h0.toNat h1.toNat h2.toNat h3.toNat h4 h5 h6 h7 h8 h9 h10 h11 h12 := if_pos h
    rw [e1, e2, e3]
    have h' := h
    unfold HdOk at h'
    obtain ⟨l, rfl⟩ : ∃ l : Nat, h0 = l := ⟨h0.toNat, by omega⟩
    obtain ⟨v, rfl⟩ : ∃ l : Nat, h1 = l := ⟨h1.toNat, by omega⟩
    obtain ⟨m, rfl⟩ : ∃ l : Nat, h2 = l := ⟨h2.toNat, by omega⟩
    obtain ⟨s, rfl⟩ : ∃ l : Nat, h3 = l := ⟨h3.toNat, by omega⟩
    simp only [Int.toNat_natCast]
    refine (refEncode_ok l v m s h4 h5 h6 h7 h8 h9 h10 h11 h12 w h z6 z7 z8 z9 z10 z11 z12).mono ?_
    rintro e w' ⟨A', c', rfl, hB, hb⟩
    exact ⟨A', c', rfl, hB, hb⟩
  · have e1 : encT h0 h1 h2 h3 h4 h5 = 0 := if_neg h
    have e2 : encE h0 h1 h2 h3 h4 h5 = 4 := if_neg h
    have e3 : encL h0 h1 h2 h3 h4 h5 h6 h7 h8 h9 h10 h11 h12 = [] := if_neg h
    rw [e1, e2, e3]
    refine (refEncode_bad h0 h1 h2 h3 h4 h5 h6 h7 h8 h9 h10 h11 h12 w h).mono ?_
    rintro e w' ⟨rfl, hb⟩
    exact ⟨none, 0, rfl, Bytes.nil _ _ _ (by decide), hb⟩
theorem reply_any (h0 h1 h2 h3 h4 h5 : Int) (h6 h7 h8 h9 h10 h11 h12 : Nat) (s : Int) (r x : Nat) (w : World) :
    Calls Try.prog 16 #[.agg #[.int .i64 h0, .int .i64 h1, .int .i64 h2, .int .i64 h3, .int .i64 h4, .int .i64 h5, .int .u32 h6, .int .u32 h7, .int .u32 h8, .int .u64 h9, .int .u64 h10, .int .u64 h11, .int .u64 h12], .int .i64 s, .int .u64 r, .int .u64 x] w fun e w' => e = .returned (.tuple #[.agg #[.int .i64 0, .int .i64 (ryI (replyE h0 h1 h2 h3 h4 h5 s) h1), .int .i64 (ryI (replyE h0 h1 h2 h3 h4 h5 s) 4), .int .i64 (ryI (replyE h0 h1 h2 h3 h4 h5 s) s), .int .i64 (ryI (replyE h0 h1 h2 h3 h4 h5 s) h4), .int .i64 (ryI (replyE h0 h1 h2 h3 h4 h5 s) (-20)), .int .u32 0, .int .u32 0, .int .u32 0, .int .u64 0, .int .u64 (ryN (replyE h0 h1 h2 h3 h4 h5 s) h12 : Nat), .int .u64 (ryN (replyE h0 h1 h2 h3 h4 h5 s) r : Nat), .int .u64 (ryN (replyE h0 h1 h2 h3 h4 h5 s) x : Nat)], .int .i64 (replyE h0 h1 h2 h3 h4 h5 s)]) ∧ Below w.heap.size w w' := by
  by_cases h : replyE h0 h1 h2 h3 h4 h5 s = 0
  · have hh := h
    unfold replyE at hh
    rw [h]
    simp only [ryI, ryN, if_true]
    by_cases hk : HdOk h0 h1 h2 h3 h4 h5
    · rw [if_pos hk] at hh
      by_cases h2' : h2 = 3
      · rw [if_pos h2'] at hh
        by_cases hs : 0 ≤ s ∧ s ≤ 255
        · exact reply_ok h0 h1 h2 h3 h4 h5 h6 h7 h8 h9 h10 h11 h12 s r x w hk h2' hs.1 hs.2
        · rw [if_neg hs] at hh; omega
      · rw [if_neg h2'] at hh; omega
    · rw [if_neg hk] at hh; omega
  · refine (reply_err h0 h1 h2 h3 h4 h5 h6 h7 h8 h9 h10 h11 h12 s r x w h).mono ?_
    rintro e w' ⟨rfl, hb⟩
    simp only [ryI, ryN, h, if_false]
    exact ⟨rfl, hb⟩
theorem refReply_any (h0 h1 h2 h3 h4 h5 : Int) (h6 h7 h8 h9 h10 h11 h12 : Nat) (s : Int) (r x : Nat) (w : World) :
    Calls Try.prog 40 #[.agg #[.int .i64 h0, .int .i64 h1, .int .i64 h2, .int .i64 h3, .int .i64 h4, .int .i64 h5, .int .u32 h6, .int .u32 h7, .int .u32 h8, .int .u64 h9, .int .u64 h10, .int .u64 h11, .int .u64 h12], .int .i64 s, .int .u64 r, .int .u64 x] w fun e w' => e = .returned (.tuple #[.agg #[.int .i64 0, .int .i64 (ryI (replyE h0 h1 h2 h3 h4 h5 s) h1), .int .i64 (ryI (replyE h0 h1 h2 h3 h4 h5 s) 4), .int .i64 (ryI (replyE h0 h1 h2 h3 h4 h5 s) s), .int .i64 (ryI (replyE h0 h1 h2 h3 h4 h5 s) h4), .int .i64 (ryI (replyE h0 h1 h2 h3 h4 h5 s) (-20)), .int .u32 0, .int .u32 0, .int .u32 0, .int .u64 0, .int .u64 (ryN (replyE h0 h1 h2 h3 h4 h5 s) h12 : Nat), .int .u64 (ryN (replyE h0 h1 h2 h3 h4 h5 s) r : Nat), .int .u64 (ryN (replyE h0 h1 h2 h3 h4 h5 s) x : Nat)], .int .i64 (replyE h0 h1 h2 h3 h4 h5 s)]) ∧ Below w.heap.size w w' := by
  by_cases h : replyE h0 h1 h2 h3 h4 h5 s = 0
  · have hh := h
    unfold replyE at hh
    rw [h]
    simp only [ryI, ryN, if_true]
    by_cases hk : HdOk h0 h1 h2 h3 h4 h5
    · rw [if_pos hk] at hh
      by_cases h2' : h2 = 3
      · rw [if_pos h2'] at hh
        by_cases hs : 0 ≤ s ∧ s ≤ 255
        · exact refReply_ok h0 h1 h2 h3 h4 h5 h6 h7 h8 h9 h10 h11 h12 s r x w hk h2' hs.1 hs.2
        · rw [if_neg hs] at hh; omega
      · rw [if_neg h2'] at hh; omega
    · rw [if_neg hk] at hh; omega
  · refine (refReply_err h0 h1 h2 h3 h4 h5 h6 h7 h8 h9 h10 h11 h12 s r x w h).mono ?_
    rintro e w' ⟨rfl, hb⟩
    simp only [ryI, ryN, h, if_false]
    exact ⟨rfl, hb⟩
theorem refValid_any (h0 h1 h2 h3 h4 h5 : Int) (h6 h7 h8 h9 h10 h11 h12 : Nat) (w : World) : Calls Try.prog 42 #[.agg #[.int .i64 h0, .int .i64 h1, .int .i64 h2, .int .i64 h3, .int .i64 h4, .int .i64 h5, .int .u32 h6, .int .u32 h7, .int .u32 h8, .int .u64 h9, .int .u64 h10, .int .u64 h11, .int .u64 h12]] w fun e w' => e = .returned (.int .i64 (encE h0 h1 h2 h3 h4 h5)) ∧ Below w.heap.size w w' := by
  by_cases h : HdOk h0 h1 h2 h3 h4 h5
  · rw [show encE h0 h1 h2 h3 h4 h5 = 0 from if_pos h]; exact refValid_ok h0 h1 h2 h3 h4 h5 h6 h7 h8 h9 h10 h11 h12 w h
  · rw [show encE h0 h1 h2 h3 h4 h5 = 4 from if_neg h]; exact refValid_bad h0 h1 h2 h3 h4 h5 h6 h7 h8 h9 h10 h11 h12 w h
end Go.Proofs.Ytnpfndlmbaafaaa
