/- packet.Decode: the reader, and what it keeps. -/
import Derived.Test.YtnpfndlmbaafaaaPkA
import Derived.Test.YtnpfndlmbaafaaaGet
import Derived.Test.YtnpfndlmbaafaaaClone
import Derived.Test.YtnpfndlmbaafaaaSl
import Derived.Test.YtnpfndlmbaafaaaBlk
import Derived.Deep.DeepCutAuto
namespace Go.Proofs.Ytnpfndlmbaafaaa
open Go.RowKit

theorem und_reader : Try.prog.underlying 99 = some (.slice (Try.prog.elem 99)) := by kernel_rfl
theorem size_reader (w : World) : (sizeOf (Try.prog.elem 99)).run Try.prog w = .ok 1 w := by kernel_rfl
theorem be64_take (l : List UInt8) (k : Nat) : be64 (l.take k) k = be64 l k := by simp [be64, List.take_take]

set_option maxHeartbeats 1000000 in
theorem rnext_any (rb n c k : Nat) (A : Option Addr) (l : List UInt8) (w : World) (hb : Blk w rb 99 #[.slice A n c]) (hv : Bytes w A n c l) (hk : k ≤ n) :
    Calls Try.prog 56 #[.pointer (some ⟨rb, 0, none⟩), .int .i64 k] w fun e w' => e = .returned (.int .u64 (be64 l k)) ∧ w' = w.setCell ⟨rb, 0, none⟩ (.slice (cutA A c k) (n - k) (c - k)) := by
  have k0 : w.cell? ⟨rb, 0, none⟩ = some (.slice A n c) := hb.cell 0
  have f0 := hb.frozen 0
  have s1 := run_cutFrom und_reader size_reader (A := A) (n := n) (c := c) (k : Int) k (n - k) (c - k) rfl hk rfl rfl
  have q1 := hv.le
  have q2 := hv.cap
  have V := Lib.hid (hv.cutTo k hk)
  have E := Lib.hid (be64_take l k)
  clear hb hv
  go_enter Try.func56, Try.ntmps56
  go_wp2_with fail
  refine (get_any _ _ _ _ _ V.out).mono ?_
  rintro e w1 ⟨rfl, rfl⟩
  rw [E.out]
  go_wp2
  go_ret
  exact ⟨rfl, rfl⟩

/-- What Decode keeps: the header's block, the reader's block, the bytes that are left. -/
structure DS (w : World) (hb rb : Nat) (l : List UInt8) (i : Nat) (cs : Array Value) (wr : World) : Prop where
  hd : Blk wr hb 25 cs
  rd : ∃ A n c, Blk wr rb 99 #[.slice A n c] ∧ Bytes w A n c (l.drop i) ∧ n + i = l.length
  below : Below w.heap.size w wr
  ne : hb ≠ rb
  ge1 : w.heap.size ≤ hb
  ge2 : w.heap.size ≤ rb
section
variable {w wr : World} {hb rb i : Nat} {l : List UInt8} {cs : Array Value}
theorem DS.set (h : DS w hb rb l i cs wr) (j : Nat) (v : Value) : DS w hb rb l i (cs.setIfInBounds j v) (wr.setCell ⟨hb, j, none⟩ v) := by
  obtain ⟨A, n, c, h1, h2, h3⟩ := h.rd
  exact ⟨h.hd.put j v, ⟨A, n, c, h1.far (p := ⟨hb, j, none⟩) h.ne.symm _, h2, h3⟩, h.below.setCell (p := ⟨hb, j, none⟩) h.ge1 _, h.ne, h.ge1, h.ge2⟩
theorem DS.next (h : DS w hb rb l i cs wr) (k : Nat) (hk : i + k ≤ l.length) :
    Calls Try.prog 56 #[.pointer (some ⟨rb, 0, none⟩), .int .i64 k] wr fun e w' => e = .returned (.int .u64 (be64 (l.drop i) k)) ∧ DS w hb rb l (i + k) cs w' := by
  obtain ⟨A, n, c, h1, h2, h3⟩ := h.rd
  refine (rnext_any rb n c k A (l.drop i) wr h1 (h2.stays h.below) (by omega)).mono ?_
  rintro e w' ⟨rfl, rfl⟩
  refine ⟨rfl, h.hd.far (p := ⟨rb, 0, none⟩) h.ne _, ⟨_, n - k, c - k, by simpa using h1.put 0 (.slice (cutA A c k) (n - k) (c - k)), ?_, by omega⟩, h.below.setCell (p := ⟨rb, 0, none⟩) h.ge2 _, h.ne, h.ge1, h.ge2⟩
  have := h2.cutFrom k (by omega) (d := n - k) (k := c - k) rfl rfl
  rwa [List.drop_drop] at this
end
/-- A signed byte. -/
def sgnB (x : Nat) : Int := if x ≤ 127 then (x : Int) else (x : Int) - 256
theorem sgnB_wrap (x : Nat) (h : x < 256) : IntKind.i8.wrap (x : Int) = sgnB x := by
  unfold sgnB
  split <;> simp [IntKind.wrap, IntKind.bits, IntKind.signed] <;> omega
theorem sgnB_in (x : Nat) (h : x < 256) : -128 ≤ sgnB x ∧ sgnB x ≤ 127 := by unfold sgnB; split <;> omega
theorem and7 : ∀ x < 256, bits .and .i64 ((x : Nat) : Int) 7 = ((x % 8 : Nat) : Int) := by decide +kernel
end Go.Proofs.Ytnpfndlmbaafaaa
