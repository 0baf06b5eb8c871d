/- Trees: Leaf, Node of both. -/
import Derived.Test.YtahphlcahaheiaaTreeL
import Derived.Test.YtahphlcahaheiaaItems
import Derived.Test.YtahphlcahaheiaaHash
import Derived.Test.YtahphlcahaheiaaRefS
import Derived.Test.YtahphlcahaheiaaJoinO
import Derived.Test.YtahphlcahaheiaaRefJoin
namespace Go.Proofs.Ytahphlcahaheiaa
open Go.RowKit

theorem byte0 {w : World} {E : Nat} : Bytes (w.alloc (.cells #[.int .u8 0] E)) (some ⟨w.heap.size, 0, none⟩) 1 1 [0] := Bytes.made (w := w) (l := [0]) (E := E) (by simp [maxLen])
theorem byte1 {w : World} {E : Nat} : Bytes (w.alloc (.cells #[.int .u8 1] E)) (some ⟨w.heap.size, 0, none⟩) 1 1 [1] := Bytes.made (w := w) (l := [1]) (E := E) (by simp [maxLen])
set_option maxRecDepth 100000 in
set_option maxHeartbeats 4000000 in
theorem leaf_any (b : List UInt8) (A : Option Addr) (n c : Nat) (w : World) (hb : Bytes w A n c b) (hn : n ≤ 1000000) :
    Calls Try.prog 50 #[.slice A n c] w fun e w' => ∃ A' c', e = .returned (.slice A' 32 c') ∧ Bytes w' A' 32 c' (leafL b) ∧ Fresh w.heap.size A' ∧ Below w.heap.size w w' := by
  have kk : Below w.heap.size w (w.alloc (.cells #[.int .u8 0] 5)) := (Below.refl _ _).alloc (Nat.le_refl _) _
  have F1 := byte0 (w := w) (E := 5)
  have hL := lists_made2 (E := 22) F1 (hb.stays kk)
  rw [show (w.alloc (.cells #[.int .u8 0] 5)).heap.size = w.heap.size + 1 by simp] at hL
  have HLL := Lib.hid hL
  have hT : Hid ([[0], b].flatten.length = n + 1) := by unfold Hid; simp [hb.len]
  clear hb kk F1 hL
  go_enter Try.func50, Try.ntmps50
  go_wp2_with fail
  refine (join_any _ _ _ [[0], b] _ HLL.out (n + 1) hT.out (by omega)).mono ?_
  rintro e w1 ⟨A1, c1, rfl, hv, hb⟩
  have V1 : Hid (Bytes w1 A1 (n + 1) c1 (0 :: b)) := by
    have := own_rd hv
    simpa [Hid, Bytes] using this
  have R1 := Lib.hid (below_via (B := w.heap.size) (w := w) (by go_grown) hb (by simp; omega))
  have hs1 := R1.out.size
  clear hv hb HLL
  go_wp2_with fail
  refine (sum_any _ _ _ _ _ V1.out).mono ?_
  rintro e w2 ⟨A2, c2, rfl, hv, hb⟩
  have V2 : Hid (Bytes w2 A2 32 c2 (leafL b)) := own_rd hv
  have F2 := Lib.hid (Fresh.more (B' := w.heap.size) (Fresh.own hv) hs1)
  have R2 := Lib.hid (R1.out.trans (hb.mono hs1))
  clear hv hb
  go_wp2
  go_ret
  exact ⟨_, _, rfl, V2.out, F2.out, R2.out⟩
set_option maxRecDepth 100000 in
set_option maxHeartbeats 4000000 in
theorem refLeaf_any (b : List UInt8) (A : Option Addr) (n c : Nat) (w : World) (hb : Bytes w A n c b) (hn : n ≤ 1000000) :
    Calls Try.prog 51 #[.slice A n c] w fun e w' => ∃ A' c', e = .returned (.slice A' 32 c') ∧ Bytes w' A' 32 c' (leafL b) ∧ Fresh w.heap.size A' ∧ Below w.heap.size w w' := by
  have kk : Below w.heap.size w (w.alloc (.cells #[.int .u8 0] 5)) := (Below.refl _ _).alloc (Nat.le_refl _) _
  have F1 := byte0 (w := w) (E := 5)
  have hL := lists_made2 (E := 22) F1 (hb.stays kk)
  rw [show (w.alloc (.cells #[.int .u8 0] 5)).heap.size = w.heap.size + 1 by simp] at hL
  have HLL := Lib.hid hL
  have hT : Hid ([[0], b].flatten.length = n + 1) := by unfold Hid; simp [hb.len]
  clear hb kk F1 hL
  go_enter Try.func51, Try.ntmps51
  go_wp2_with fail
  refine (refJoin_any _ _ _ [[0], b] _ HLL.out (n + 1) hT.out (by omega)).mono ?_
  rintro e w1 ⟨A1, c1, rfl, hv, hb⟩
  have V1 : Hid (Bytes w1 A1 (n + 1) c1 (0 :: b)) := by
    have := own_rd hv
    simpa [Hid, Bytes] using this
  have R1 := Lib.hid (below_via (B := w.heap.size) (w := w) (by go_grown) hb (by simp; omega))
  have hs1 := R1.out.size
  clear hv hb HLL
  go_wp2_with fail
  refine (refSum_any _ _ _ _ _ V1.out).mono ?_
  rintro e w2 ⟨A2, c2, rfl, hv, hb⟩
  have V2 : Hid (Bytes w2 A2 32 c2 (leafL b)) := own_rd hv
  have F2 := Lib.hid (Fresh.more (B' := w.heap.size) (Fresh.own hv) hs1)
  have R2 := Lib.hid (R1.out.trans (hb.mono hs1))
  clear hv hb
  go_wp2
  go_ret
  exact ⟨_, _, rfl, V2.out, F2.out, R2.out⟩
set_option maxRecDepth 100000 in
set_option maxHeartbeats 4000000 in
theorem node_any (l r : List UInt8) (A : Option Addr) (n c : Nat) (A2 : Option Addr) (n2 c2 : Nat) (w : World) (hl : Bytes w A n c l) (hr : Bytes w A2 n2 c2 r) (hn : n ≤ 1000000) (hn2 : n2 ≤ 1000000) :
    Calls Try.prog 40 #[.slice A n c, .slice A2 n2 c2] w fun e w' => ∃ A' c', e = .returned (.slice A' 32 c') ∧ Bytes w' A' 32 c' (nodeL l r) ∧ Fresh w.heap.size A' ∧ Below w.heap.size w w' := by
  have kk : Below w.heap.size w (w.alloc (.cells #[.int .u8 1] 5)) := (Below.refl _ _).alloc (Nat.le_refl _) _
  have F1 := byte1 (w := w) (E := 5)
  have hL := lists_made3 (E := 22) F1 (hl.stays kk) (hr.stays kk)
  rw [show (w.alloc (.cells #[.int .u8 1] 5)).heap.size = w.heap.size + 1 by simp] at hL
  have HLL := Lib.hid hL
  have hT : Hid ([[1], l, r].flatten.length = n + n2 + 1) := by unfold Hid; simp [hl.len, hr.len]
  clear hl hr kk F1 hL
  go_enter Try.func40, Try.ntmps40
  go_wp2_with fail
  refine (join_any _ _ _ [[1], l, r] _ HLL.out (n + n2 + 1) hT.out (by omega)).mono ?_
  rintro e w1 ⟨A1, c1, rfl, hv, hb⟩
  have V1 : Hid (Bytes w1 A1 (n + n2 + 1) c1 (1 :: (l ++ r))) := by
    have := own_rd hv
    simpa [Hid, Bytes] using this
  have R1 := Lib.hid (below_via (B := w.heap.size) (w := w) (by go_grown) hb (by simp; omega))
  have hs1 := R1.out.size
  clear hv hb HLL
  go_wp2_with fail
  refine (sum_any _ _ _ _ _ V1.out).mono ?_
  rintro e w2 ⟨A2, c2, rfl, hv, hb⟩
  have V2 : Hid (Bytes w2 A2 32 c2 (nodeL l r)) := own_rd hv
  have F2 := Lib.hid (Fresh.more (B' := w.heap.size) (Fresh.own hv) hs1)
  have R2 := Lib.hid (R1.out.trans (hb.mono hs1))
  clear hv hb
  go_wp2
  go_ret
  exact ⟨_, _, rfl, V2.out, F2.out, R2.out⟩
set_option maxRecDepth 100000 in
set_option maxHeartbeats 4000000 in
theorem refNode_any (l r : List UInt8) (A : Option Addr) (n c : Nat) (A2 : Option Addr) (n2 c2 : Nat) (w : World) (hl : Bytes w A n c l) (hr : Bytes w A2 n2 c2 r) (hn : n ≤ 1000000) (hn2 : n2 ≤ 1000000) :
    Calls Try.prog 52 #[.slice A n c, .slice A2 n2 c2] w fun e w' => ∃ A' c', e = .returned (.slice A' 32 c') ∧ Bytes w' A' 32 c' (nodeL l r) ∧ Fresh w.heap.size A' ∧ Below w.heap.size w w' := by
  have kk : Below w.heap.size w (w.alloc (.cells #[.int .u8 1] 5)) := (Below.refl _ _).alloc (Nat.le_refl _) _
  have F1 := byte1 (w := w) (E := 5)
  have hL := lists_made3 (E := 22) F1 (hl.stays kk) (hr.stays kk)
  rw [show (w.alloc (.cells #[.int .u8 1] 5)).heap.size = w.heap.size + 1 by simp] at hL
  have HLL := Lib.hid hL
  have hT : Hid ([[1], l, r].flatten.length = n + n2 + 1) := by unfold Hid; simp [hl.len, hr.len]
  clear hl hr kk F1 hL
  go_enter Try.func52, Try.ntmps52
  go_wp2_with fail
  refine (refJoin_any _ _ _ [[1], l, r] _ HLL.out (n + n2 + 1) hT.out (by omega)).mono ?_
  rintro e w1 ⟨A1, c1, rfl, hv, hb⟩
  have V1 : Hid (Bytes w1 A1 (n + n2 + 1) c1 (1 :: (l ++ r))) := by
    have := own_rd hv
    simpa [Hid, Bytes] using this
  have R1 := Lib.hid (below_via (B := w.heap.size) (w := w) (by go_grown) hb (by simp; omega))
  have hs1 := R1.out.size
  clear hv hb HLL
  go_wp2_with fail
  refine (refSum_any _ _ _ _ _ V1.out).mono ?_
  rintro e w2 ⟨A2, c2, rfl, hv, hb⟩
  have V2 : Hid (Bytes w2 A2 32 c2 (nodeL l r)) := own_rd hv
  have F2 := Lib.hid (Fresh.more (B' := w.heap.size) (Fresh.own hv) hs1)
  have R2 := Lib.hid (R1.out.trans (hb.mono hs1))
  clear hv hb
  go_wp2
  go_ret
  exact ⟨_, _, rfl, V2.out, F2.out, R2.out⟩
end Go.Proofs.Ytahphlcahaheiaa
