import Derived.Deep.DeepCutAuto
import Derived.Test.YtiemnacoebkalaaGreatTaV07
set_option linter.all false
set_option maxRecDepth 100000
set_option maxHeartbeats 4000000
namespace Go.Proofs.YtiemnacoebkalaaGreat
open Go.RowKit
theorem und_reader : Tryz.prog.underlying 200 = some (.slice (Tryz.prog.elem 200)) := by kernel_rfl
theorem size_reader (w : World) : (sizeOf (Tryz.prog.elem 200)).run Tryz.prog w = .ok 1 w := by kernel_rfl
theorem be64_take (l : List UInt8) (k : Nat) : be64 (l.take k) k = be64 l k := by simp [be64, List.take_take]

theorem rnext_any (rb n c k : Nat) (A : Option Addr) (l : List UInt8) (w : World) (hb : Blk w rb 200 #[.slice A n c]) (hv : Bytes w A n c l) (hk : k <= n) :
    Calls Tryz.prog 132 #[.pointer (some ⟨rb, 0, none⟩), .int .i64 k] w fun e w' => e = .returned (.int .u64 (be64 l k)) ∧ w' = w.setCell ⟨rb, 0, none⟩ (.slice (cutA A c k) (n - k) (c - k)) := by
 have k0 : w.cell? ⟨rb, 0, none⟩ = some (.slice A n c) := hb.cell 0; have f0 := hb.frozen 0; have s1 := run_cutFrom und_reader size_reader (A := A) (n := n) (c := c) (k : Int) k (n - k) (c - k) rfl hk rfl rfl; have q1 := hv.le; have q2 := hv.cap; have V := qq (hv.cutTo k hk); have E := qq (be64_take l k); clear hb hv
 go_enter Tryz.func132, Tryz.ntmps132
 go_wp2_with fail
 refine (get_any _ _ _ _ _ V.out).mono ?_; rintro e w1 ⟨rfl, rfl⟩; rw [E.out]; go_wp2; go_ret; exact ⟨rfl, rfl⟩

structure DS (w : World) (hb rb : Nat) (l : List UInt8) (i : Nat) (cs : Array Value) (wr : World) : Prop where
 hd : Blk wr hb 48 cs
 rd : ∃ A n c, Blk wr rb 200 #[.slice A n c] ∧ Bytes w A n c (l.drop i) ∧ n + i = l.length
 below : Below w.heap.size w wr
 ne : hb ≠ rb
 ge1 : w.heap.size <= hb
 ge2 : w.heap.size <= rb
section
variable {w wr : World} {hb rb i : Nat} {l : List UInt8} {cs : Array Value}
theorem DS.set (h : DS w hb rb l i cs wr) (j : Nat) (v : Value) : DS w hb rb l i (cs.setIfInBounds j v) (wr.setCell ⟨hb, j, none⟩ v) := by
 obtain ⟨A, n, c, h1, h2, h3⟩ := h.rd; exact ⟨h.hd.put j v, ⟨A, n, c, h1.far (p := ⟨hb, j, none⟩) h.ne.symm _, h2, h3⟩, h.below.setCell (p := ⟨hb, j, none⟩) h.ge1 _, h.ne, h.ge1, h.ge2⟩
theorem DS.next (h : DS w hb rb l i cs wr) (k : Nat) (hk : i + k <= l.length) :
    Calls Tryz.prog 132 #[.pointer (some ⟨rb, 0, none⟩), .int .i64 k] wr fun e w' => e = .returned (.int .u64 (be64 (l.drop i) k)) ∧ DS w hb rb l (i + k) cs w' := by
 obtain ⟨A, n, c, h1, h2, h3⟩ := h.rd; refine (rnext_any rb n c k A (l.drop i) wr h1 (h2.stays h.below) (by omega)).mono ?_; rintro e w' ⟨rfl, rfl⟩; refine ⟨rfl, h.hd.far (p := ⟨rb, 0, none⟩) h.ne _, ⟨_, n - k, c - k, by simpa using h1.put 0 (.slice (cutA A c k) (n - k) (c - k)), ?_, by omega⟩, h.below.setCell (p := ⟨rb, 0, none⟩) h.ge2 _, h.ne, h.ge1, h.ge2⟩; have := h2.cutFrom k (by omega) (d := n - k) (k := c - k) rfl rfl
 rwa [List.drop_drop] at this
end
def sgnB (x : Nat) : Int := if x <= 127 then (x : Int) else (x : Int) - 256
theorem sgnB_wrap (x : Nat) (h : x < 256) : IntKind.i8.wrap (x : Int) = sgnB x := by
 unfold sgnB
 split <;> simp [IntKind.wrap, IntKind.bits, IntKind.signed] <;> omega
theorem sgnB_in (x : Nat) (h : x < 256) : -128 <= sgnB x ∧ sgnB x <= 127 := by unfold sgnB; split <;> omega
theorem and7 : ∀ x < 256, bits .and .i64 ((x : Nat) : Int) 7 = ((x % 8 : Nat) : Int) := by decide +kernel
def dcL (b : List UInt8) : Nat := byteAt b 0 / 64
def dcV (b : List UInt8) : Nat := byteAt b 0 / 8 % 8
def dcM (b : List UInt8) : Nat := byteAt b 0 % 8
def dcU (b : List UInt8) (i k : Nat) : Nat := be64 (b.drop i) k
theorem drop_len (A B : List UInt8) (n : Nat) (h : A.length = n) : (A ++ B).drop n = B := by subst h; simp
theorem dec_enc (l v m s : Nat) (p q : Int) (h6 h7 h8 h9 h10 h11 h12 : Nat) (rest : List UInt8) (h : HdOk l v m s p q) (z6 : h6 < 4294967296) (z7 : h7 < 4294967296) (z8 : h8 < 4294967296) (z9 : h9 < 18446744073709551616) (z10 : h10 < 18446744073709551616) (z11 : h11 < 18446744073709551616) (z12 : h12 < 18446744073709551616) (b : List UInt8) (hb : b = hdBytes l v m s p q h6 h7 h8 h9 h10 h11 h12 ++ rest) :
    dcL b = l ∧ dcV b = v ∧ dcM b = m ∧ byteAt b 1 = s ∧ sgnB (byteAt b 2) = p ∧ sgnB (byteAt b 3) = q ∧ dcU b 4 4 = h6 ∧ dcU b 8 4 = h7 ∧ dcU b 12 4 = h8 ∧ dcU b 16 8 = h9 ∧ dcU b 24 8 = h10 ∧ dcU b 32 8 = h11 ∧ dcU b 40 8 = h12 ∧ b.drop 48 = rest := by
 obtain ⟨⟨a0, b0⟩, ⟨a1, b1⟩, ⟨a2, b2⟩, ⟨a3, b3⟩, ⟨a4, b4⟩, ⟨a5, b5⟩⟩ := h; have hb' : b = hdHead l v m s p q ++ (putL h6 4 ++ (putL h7 4 ++ (putL h8 4 ++ (putL h9 8 ++ (putL h10 8 ++ (putL h11 8 ++ (putL h12 8 ++ rest))))))) := by rw [hb]; simp only [hdBytes, List.append_assoc]
 have e4 : b.drop 4 = putL h6 4 ++ (putL h7 4 ++ (putL h8 4 ++ (putL h9 8 ++ (putL h10 8 ++ (putL h11 8 ++ (putL h12 8 ++ rest)))))) := by rw [hb']; exact drop_len _ _ 4 rfl
 have e8 : b.drop 8 = putL h7 4 ++ (putL h8 4 ++ (putL h9 8 ++ (putL h10 8 ++ (putL h11 8 ++ (putL h12 8 ++ rest))))) := by rw [show (8 : Nat) = 4 + 4 from rfl, <- List.drop_drop, e4]; exact drop_len _ _ 4 (putL_length _ _)
 have e12 : b.drop 12 = putL h8 4 ++ (putL h9 8 ++ (putL h10 8 ++ (putL h11 8 ++ (putL h12 8 ++ rest)))) := by rw [show (12 : Nat) = 8 + 4 from rfl, <- List.drop_drop, e8]; exact drop_len _ _ 4 (putL_length _ _)
 have e16 : b.drop 16 = putL h9 8 ++ (putL h10 8 ++ (putL h11 8 ++ (putL h12 8 ++ rest))) := by rw [show (16 : Nat) = 12 + 4 from rfl, <- List.drop_drop, e12]; exact drop_len _ _ 4 (putL_length _ _)
 have e24 : b.drop 24 = putL h10 8 ++ (putL h11 8 ++ (putL h12 8 ++ rest)) := by rw [show (24 : Nat) = 16 + 8 from rfl, <- List.drop_drop, e16]; exact drop_len _ _ 8 (putL_length _ _)
 have e32 : b.drop 32 = putL h11 8 ++ (putL h12 8 ++ rest) := by rw [show (32 : Nat) = 24 + 8 from rfl, <- List.drop_drop, e24]; exact drop_len _ _ 8 (putL_length _ _)
 have e40 : b.drop 40 = putL h12 8 ++ rest := by rw [show (40 : Nat) = 32 + 8 from rfl, <- List.drop_drop, e32]; exact drop_len _ _ 8 (putL_length _ _)
 have e48 : b.drop 48 = rest := by rw [show (48 : Nat) = 40 + 8 from rfl, <- List.drop_drop, e40]; exact drop_len _ _ 8 (putL_length _ _)
 have y0 : byteAt b 0 = l * 64 + v * 8 + m := by rw [hb']; simp [hdHead, byteAt]; omega
 have y1 : byteAt b 1 = s := by rw [hb']; simp [hdHead, byteAt]; omega
 have y2 : byteAt b 2 = (p % 256).toNat := by rw [hb']; simp [hdHead, byteAt]; omega
 have y3 : byteAt b 3 = (q % 256).toNat := by rw [hb']; simp [hdHead, byteAt]; omega
 refine ⟨by unfold dcL; omega, by unfold dcV; omega, by unfold dcM; omega, y1, ?_, ?_, ?_, ?_, ?_, ?_, ?_, ?_, ?_, e48⟩
 · rw [y2]; unfold sgnB; split <;> omega
 · rw [y3]; unfold sgnB; split <;> omega
 · unfold dcU; rw [e4, pb_be_putL _ _ (by decide)]; omega
 · unfold dcU; rw [e8, pb_be_putL _ _ (by decide)]; omega
 · unfold dcU; rw [e12, pb_be_putL _ _ (by decide)]; omega
 · unfold dcU; rw [e16, pb_be_putL _ _ (by decide)]; omega
 · unfold dcU; rw [e24, pb_be_putL _ _ (by decide)]; omega
 · unfold dcU; rw [e32, pb_be_putL _ _ (by decide)]; omega
 · unfold dcU; rw [e40, pb_be_putL _ _ (by decide)]; omega
theorem hdBytes_len (l v m s : Nat) (p q : Int) (h6 h7 h8 h9 h10 h11 h12 : Nat) : (hdBytes l v m s p q h6 h7 h8 h9 h10 h11 h12).length = 48 := by simp [hdBytes, hdHead, putL_length]
end Go.Proofs.YtiemnacoebkalaaGreat
