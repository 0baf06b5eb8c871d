/- The sanity check of the statements of layer 1. -/
import Derived.Test.YtofadjcphaehcaaWrite
import Derived.Test.YtofadjcphaehcaaHex
import Derived.Test.YtofadjcphaehcaaGet
import Derived.Test.YtofadjcphaehcaaPut
namespace Go.Proofs.Ytofadjcphaehcaa
open Go.RowKit

/-- A literal of bytes in a new block. -/
theorem bytes_lit {w : World} {E n : Nat} (l : List UInt8) (vs : Array Value) (hv : vs = (l.map byteV).toArray) (hn : l.length = n) (hm : n ≤ maxLen) : Bytes (w.alloc (.cells vs E)) (some ⟨w.heap.size, 0, none⟩) n n l := by
  subst hv hn
  exact Bytes.made hm

theorem known_flds (w : World) : FldL ((w.alloc (.cells #[.int .u8 7] 5)).alloc (.cells #[.int .i64 258, .slice (some ⟨w.heap.size, 0, none⟩) 1 1] 38)) (some ⟨w.heap.size + 1, 0, none⟩) 1 1 [(258, [7])] := by
  refine ⟨[.int .i64 258, .slice (some ⟨w.heap.size, 0, none⟩) 1 1], ⟨rfl, Nat.le_refl _, by simp [maxLen], fun i u hu => ⟨_, _, rfl, ?_⟩⟩, rfl, fun i f hf => ?_⟩
  · rw [World.cell?_alloc_at _ _ _ _ (by simp), Nat.zero_add]; simpa using hu
  · match i, hf with
    | 0, hf =>
      simp at hf
      subst hf
      exact ⟨_, 1, 1, rfl, rfl, (bytes_lit [7] #[.int .u8 7] rfl rfl (by decide)).stays ((Below.refl _ _).alloc (Nat.le_refl _) _)⟩

set_option maxRecDepth 100000 in
set_option maxHeartbeats 2000000 in
theorem octKnown (w : World) : Calls Try.prog 15 #[] w fun e w' => e = .returned (.bool true) ∧ Below w.heap.size w w' := by
  have hw := Lib.hid (fun (W : World) => write_any _ _ _ _ _ (known_flds W))
  rw [show writeL [((258 : Int), [(7 : UInt8)])] [] = ([1, 2, 0, 1, 7], 0) by decide +kernel] at hw
  have hp := Lib.hid (put_reads 66051 4 (by decide))
  rw [show putL 66051 4 = [0, 1, 2, 3] by decide +kernel] at hp
  have h1 : Hid (strOf (hexL [0, 1, 2, 3]) = ⟨#[48, 48, 48, 49, 48, 50, 48, 51]⟩) := by unfold Hid strOf; decide +kernel
  have h2 : Hid (strOf (hexL [1, 2, 0, 1, 7]) = ⟨#[48, 49, 48, 50, 48, 48, 48, 49, 48, 55]⟩) := by unfold Hid strOf; decide +kernel
  have h3 : Hid (be64 [1, 0] 2 = 256) := by unfold Hid; decide +kernel
  go_enter Try.func15, Try.ntmps15
  go_wp2_with fail
  refine (hw.out _).mono ?_
  rintro e w1 ⟨A1, n1, c1, rfl, hv, hb1⟩
  have hB1 := below_via (B := w.heap.size) (w := w) (by go_grown) hb1 (by simp; omega)
  have hn1 : n1 ≤ 1000000 := by rw [← hv.len]; decide
  clear hb1
  go_wp2_with fail
  refine (hp.out _).mono ?_
  rintro e w2 ⟨A2, c2, rfl, hv2, hb2⟩
  have hv := hv.stays hb2
  have hB2 := hB1.trans (hb2.mono hB1.size)
  clear hb2 hB1
  go_wp2_with fail
  refine (hex_any _ _ _ _ _ hv2 (by decide)).mono ?_
  rintro e w3 ⟨rfl, hb3⟩
  rw [h1.out]
  have hv := hv.stays hb3
  have hB3 := hB2.trans (hb3.mono hB2.size)
  clear hb3 hB2 hv2
  go_wp2_with fail
  refine (hex_any _ _ _ _ _ hv hn1).mono ?_
  rintro e w4 ⟨rfl, hb4⟩
  rw [h2.out]
  have hB4 := hB3.trans (hb4.mono hB3.size)
  clear hb4 hB3 hv
  go_wp2_with fail
  refine (get_any _ _ _ _ _ (bytes_lit (n := 2) [1, 0] #[.int .u8 1, .int .u8 0] rfl rfl (by decide))).mono ?_
  rintro e w5 ⟨rfl, rfl⟩
  rw [h3.out]
  go_wp2
  go_ret
  exact ⟨rfl, hB4.alloc hB4.size _⟩
end Go.Proofs.Ytofadjcphaehcaa
