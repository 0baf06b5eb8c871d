/- The sanity check of the statements of layer 2. -/
import Derived.Test.YticknkaohjkjpaaHash
import Derived.Test.YticknkaohjkjpaaHex
import Derived.Test.YticknkaohjkjpaaRefS
import Derived.Test.YticknkaohjkjpaaSame
import Derived.Lib.SlBytesConst
namespace Go.Proofs.Yticknkaohjkjpaa
open Go.RowKit

/-- A literal of bytes in a new block. -/
theorem bytes_lit {w : World} {E n : Nat} (l : List UInt8) (vs : Array Value) (hv : vs = (l.map byteV).toArray) (hn : l.length = n) (hm : n ≤ maxLen) : Bytes (w.alloc (.cells vs E)) (some ⟨w.heap.size, 0, none⟩) n n l := by
  subst hv hn
  exact Bytes.made hm
theorem bytes_litm {w : World} {E n : Nat} {fr : Nat × Nat} (l : List UInt8) (vs : Array Value) (hv : vs = (l.map byteV).toArray) (hn : l.length = n) (hm : n ≤ maxLen) : Bytes (w.alloc (.cells vs E fr)) (some ⟨w.heap.size, 0, none⟩) n n l := by
  subst hv hn
  refine ⟨by simp, Nat.le_refl _, hm, fun i u hu => ⟨_, _, rfl, ?_⟩⟩
  rw [World.cell?_alloc_mark, Nat.zero_add]
  simpa using hu
set_option maxRecDepth 100000 in
set_option maxHeartbeats 4000000 in
theorem hashKnown (w : World) : Calls Try.prog 16 #[] w fun e w' => e = .returned (.bool true) ∧ Below w.heap.size w w' := by
  have h1 : Hid (strOf (hexL [0xba, 0x78, 0x16, 0xbf, 0x8f, 0x01, 0xcf, 0xea, 0x41, 0x41, 0x40, 0xde, 0x5d, 0xae, 0x22, 0x23, 0xb0, 0x03, 0x61, 0xa3, 0x96, 0x17, 0x7a, 0x9c, 0xb4, 0x10, 0xff, 0x61, 0xf2, 0x00, 0x15, 0xad]) = ⟨#[98, 97, 55, 56, 49, 54, 98, 102, 56, 102, 48, 49, 99, 102, 101, 97, 52, 49, 52, 49, 52, 48, 100, 101, 53, 100, 97, 101, 50, 50, 50, 51, 98, 48, 48, 51, 54, 49, 97, 51, 57, 54, 49, 55, 55, 97, 57, 99, 98, 52, 49, 48, 102, 102, 54, 49, 102, 50, 48, 48, 49, 53, 97, 100]⟩) := by unfold Hid strOf; decide +kernel
  have hcv := Lib.run_convert_bytes_const (P := Try.prog) w 22 5 #[.int .u8 97, .int .u8 98, .int .u8 99] 3 3 Try.underlying22 Try.underlying5
  go_enter Try.func16, Try.ntmps16
  go_wp2_with fail
  refine (sum_any [97, 98, 99] _ _ _ _ (bytes_litm (n := 3) [97, 98, 99] #[.int .u8 97, .int .u8 98, .int .u8 99] rfl rfl (by decide))).mono ?_
  rintro e w1 ⟨A1, c1, rfl, hv, hb⟩
  have hbx : Below w.heap.size w w1 := below_via (by go_grown) hb (by simp)
  have V1 := Lib.hid (show Bytes _ _ _ _ _ from own_rd hv)
  have R1 := Lib.hid hbx
  have hs1 := R1.out.size
  clear hb hbx 
  clear hv
  rw [sum_abc] at V1
  go_wp2_with fail
  refine (hex_any _ _ _ _ _ V1.out (by decide)).mono ?_
  rintro e w2 ⟨rfl, hb⟩
  have hbx : Below w1.heap.size w1 w2 := below_via (by go_grown) hb (by simp)
  have V1 := Lib.hid (V1.out.stays hbx)
  have R2 := Lib.hid (R1.out.trans (hbx.mono hs1))
  have hs2 := R2.out.size
  clear hb hbx 
  clear R1
  rw [h1.out]
  go_wp2_with fail
  refine (short_any [] none 0 0 _ (Bytes.nil _ _ _ (by decide))).mono ?_
  rintro e w3 ⟨A3, rfl, hv, hb⟩
  have hbx : Below w2.heap.size w2 w3 := below_via (by go_grown) hb (by simp)
  have V1 := Lib.hid (V1.out.stays hbx)
  have R3 := Lib.hid (R2.out.trans (hbx.mono hs2))
  have hs3 := R3.out.size
  clear hb hbx 
  clear R2
  clear hv
  go_wp2
  go_ret
  exact ⟨rfl, R3.out⟩
end Go.Proofs.Yticknkaohjkjpaa
