/- sectimeref16.Decode, where the bytes bear another version. -/
import Derived.Test.YtnpfndlmbaafaaaPkQ
import Derived.Test.YtnpfndlmbaafaaaTake
namespace Go.Proofs.Ytnpfndlmbaafaaa
open Go.RowKit

set_option maxRecDepth 100000 in
set_option maxHeartbeats 4000000 in
theorem refDec_form (A : Option Addr) (n c : Nat) (l : List UInt8) (w : World) (hv : Bytes w A n c l) (h1 : 48 ≤ n) (h2 : n ≤ 1280) (hver : ¬ (dcV l = 3 ∨ dcV l = 4)) :
    Calls Try.prog 39 #[.slice A n c] w fun e w' => e = .returned (.tuple #[.agg #[.int .i64 0, .int .i64 0, .int .i64 0, .int .i64 0, .int .i64 0, .int .i64 0, .int .u32 0, .int .u32 0, .int .u32 0, .int .u64 0, .int .u64 0, .int .u64 0, .int .u64 0], .slice none 0 0, .int .i64 3]) ∧ Below w.heap.size w w' := by
  have q1 := hv.le
  have q2 := hv.cap
  have h1i : ¬ (n : Int) < 48 := by omega
  have h2i : ¬ (n : Int) > 1280 := by omega
  have HV := Lib.hid hv
  have HL := Lib.hid hv.len
  have y0 := byteAt_lt l 0
  have y1 := byteAt_lt l 1
  have y2 := byteAt_lt l 2
  have y3 := byteAt_lt l 3
  obtain ⟨bb, off, rfl, g0⟩ := hv.at_ (i := 0) (by omega)
  obtain ⟨b1, o1, e1, g1⟩ := hv.at_ (i := 1) (by omega)
  obtain ⟨b2, o2, e2, g2⟩ := hv.at_ (i := 2) (by omega)
  obtain ⟨b3, o3, e3, g3⟩ := hv.at_ (i := 3) (by omega)
  simp only [Option.some.injEq, Addr.mk.injEq, and_true] at e1 e2 e3
  obtain ⟨rfl, rfl⟩ := e1
  obtain ⟨rfl, rfl⟩ := e2
  obtain ⟨rfl, rfl⟩ := e3
  clear hv
  obtain ⟨a, ha⟩ : ∃ a, dcL l = a := ⟨_, rfl⟩
  obtain ⟨v, hv⟩ : ∃ v, dcV l = v := ⟨_, rfl⟩
  obtain ⟨m, hm⟩ : ∃ m, dcM l = m := ⟨_, rfl⟩
  have ha2 : byteAt l 0 / 64 = a := ha
  have hv2 : byteAt l 0 / 8 % 8 = v := hv
  have hm2 : byteAt l 0 % 8 = m := hm
  rw [hv] at hver
  skip
  clear ha hv hm
  obtain ⟨z0, hz0⟩ : ∃ z, byteAt l 0 = z := ⟨_, rfl⟩
  obtain ⟨z1, hz1⟩ : ∃ z, byteAt l 1 = z := ⟨_, rfl⟩
  obtain ⟨z2, hz2⟩ : ∃ z, byteAt l 2 = z := ⟨_, rfl⟩
  obtain ⟨z3, hz3⟩ : ∃ z, byteAt l 3 = z := ⟨_, rfl⟩
  rw [hz0] at y0 ha2 hv2 hm2 g0
  rw [hz1] at y1 g1
  rw [hz2] at y2 g2
  rw [hz3] at y3 g3
  skip
  clear hz0 hz1 hz2 hz3
  have HG0 := Lib.hid g0
  have HG1 := Lib.hid g1
  have HG2 := Lib.hid g2
  have HG3 := Lib.hid g3
  clear g0 g1 g2 g3
  have HY0 := Lib.hid y0
  have HY1 := Lib.hid y1
  have HY2 := Lib.hid y2
  have HY3 := Lib.hid y3
  have n7 := and7u (z0 / 8) (by omega)
  have m7 := and7u z0 (by omega)
  rw [hv2] at n7
  rw [hm2] at m7
  have n7b : bits .and .u8 ((z0 : Int) / 8) 7 = (v : Int) := n7
  have ea : (z0 : Int) / 64 = (a : Int) := by omega
  have av : a < 256 := by omega
  have vv : v < 8 := by omega
  have mv : m < 8 := by omega
  clear n7 ha2 hv2 hm2
  have w_a : IntKind.i64.wrap (a : Int) = (a : Int) := IntWalk.i64_in _ (by omega)
  have w_v : IntKind.i64.wrap (v : Int) = (v : Int) := IntWalk.i64_in _ (by omega)
  have w_m : IntKind.i64.wrap (m : Int) = (m : Int) := IntWalk.i64_in _ (by omega)
  have w_z1 : IntKind.i64.wrap (z1 : Int) = (z1 : Int) := IntWalk.i64_in _ (by omega)
  have w4 : IntKind.u32.wrap (dcU l 4 4 : Int) = (dcU l 4 4 : Int) := IntWalk.u32_in _ (by have := dcU32_lt' l 4 (by rw [HL.out]; omega); omega)
  have w8 : IntKind.u32.wrap (dcU l 8 4 : Int) = (dcU l 8 4 : Int) := IntWalk.u32_in _ (by have := dcU32_lt' l 8 (by rw [HL.out]; omega); omega)
  have w12 : IntKind.u32.wrap (dcU l 12 4 : Int) = (dcU l 12 4 : Int) := IntWalk.u32_in _ (by have := dcU32_lt' l 12 (by rw [HL.out]; omega); omega)
  have s4 := run_cut und_bytes size_byte (A := some ⟨bb, off, none⟩) (n := n) (c := c) 4 8 4 8 4 (c - 4) rfl rfl (by omega) (by omega) rfl rfl
  have s8 := run_cut und_bytes size_byte (A := some ⟨bb, off, none⟩) (n := n) (c := c) 8 12 8 12 4 (c - 8) rfl rfl (by omega) (by omega) rfl rfl
  have s12 := run_cut und_bytes size_byte (A := some ⟨bb, off, none⟩) (n := n) (c := c) 12 16 12 16 4 (c - 12) rfl rfl (by omega) (by omega) rfl rfl
  have s16 := run_cut und_bytes size_byte (A := some ⟨bb, off, none⟩) (n := n) (c := c) 16 24 16 24 8 (c - 16) rfl rfl (by omega) (by omega) rfl rfl
  have s24 := run_cut und_bytes size_byte (A := some ⟨bb, off, none⟩) (n := n) (c := c) 24 32 24 32 8 (c - 24) rfl rfl (by omega) (by omega) rfl rfl
  have s32 := run_cut und_bytes size_byte (A := some ⟨bb, off, none⟩) (n := n) (c := c) 32 40 32 40 8 (c - 32) rfl rfl (by omega) (by omega) rfl rfl
  have s40 := run_cut und_bytes size_byte (A := some ⟨bb, off, none⟩) (n := n) (c := c) 40 48 40 48 8 (c - 40) rfl rfl (by omega) (by omega) rfl rfl
  have s48 := run_cutFrom und_bytes size_byte (A := some ⟨bb, off, none⟩) (n := n) (c := c) 48 48 (n - 48) (c - 48) rfl (by omega) rfl rfl
  clear y0 y1 y2 y3
  go_enter Try.func39, Try.ntmps39
  go_upto_region 1 with fail
  obtain ⟨x1, h_, ex1, eh_⟩ : ∃ x1 h_, x1 = w.alloc (.cells #[.int .i64 0, .int .i64 0, .int .i64 0, .int .i64 0, .int .i64 0, .int .i64 0, .int .u32 0, .int .u32 0, .int .u32 0, .int .u64 0, .int .u64 0, .int .u64 0, .int .u64 0] 25) ∧ h_ = w.heap.size := ⟨_, _, rfl, rfl⟩
  rw [← ex1, ← eh_]
  have hbx : Below w.heap.size w x1 := by rw [ex1]; exact below_alloc1 _ _ 
  have g_H : w.heap.size ≤ h_ := by rw [eh_]; exact Nat.le_refl _
  have BH := Lib.hid (show Blk x1 h_ 25 #[.int .i64 0, .int .i64 0, .int .i64 0, .int .i64 0, .int .i64 0, .int .i64 0, .int .u32 0, .int .u32 0, .int .u32 0, .int .u64 0, .int .u64 0, .int .u64 0, .int .u64 0] by rw [ex1, eh_]; exact blk_new1_0 _ _ _ )
  have R2 := Lib.hid hbx
  have hz_x1 := R2.out.size
  clear hbx ex1 eh_
  have V := Lib.hid (HV.out.stays R2.out)
  have VD := Lib.hid (V.out.stays (Below.refl _ x1).drew)
  have G0 := Lib.hid (show x1.cell? ⟨bb, off, none⟩ = some (.int .u8 z0) from cell_stays R2.out HG0.out)
  have G1 := Lib.hid (show x1.cell? ⟨bb, off + 1, none⟩ = some (.int .u8 z1) from cell_stays R2.out HG1.out)
  have G2 := Lib.hid (show x1.cell? ⟨bb, off + 2, none⟩ = some (.int .u8 z2) from cell_stays R2.out HG2.out)
  have G3 := Lib.hid (show x1.cell? ⟨bb, off + 3, none⟩ = some (.int .u8 z3) from cell_stays R2.out HG3.out)
  go_upto_region 5 with fail
  have pn0 : 0 < n := by omega
  have pm0 : (0 : Int) < (n : Int) := by omega
  have pn1 : 1 < n := by omega
  have pm1 : (1 : Int) < (n : Int) := by omega
  have pn2 : 2 < n := by omega
  have pm2 : (2 : Int) < (n : Int) := by omega
  have pn3 : 3 < n := by omega
  have pm3 : (3 : Int) < (n : Int) := by omega
  have l_H := BH.out.lt
  refine take_start (S := fun w' => Below x1.heap.size x1 w') (by kernel_rfl) ?hPQ_59 (Below.refl _ _).drew (fun hPQ hHeld => ?rest_59)
  case hPQ_59 => (repeat (with_reducible first | refine PQ.then ?_ | refine PQ.block ?_)); exact fun _ _ d _ _ h => by cases d <;> exact h
  refine take_val (i := 0) (d := (some 14)) (v := ?_) rfl rfl (by kernel_rfl) (by kernel_rfl) (by kernel_rfl) hPQ (by rfl) (fun wq hSw => ?_) hHeld ?_
  rotate_left 1
  · replace hSw : Below x1.heap.size x1 wq := hSw; have g0 := cell_stays hSw G0.out; have g1 := cell_stays hSw G1.out; have g2 := cell_stays hSw G2.out; have g3 := cell_stays hSw G3.out; go_simp; try with_reducible rfl
  try simp only [Act.put, List.setIfInBounds_toArray, List.set_cons_zero, List.set_cons_succ]
  refine take_val (i := 1) (d := (some 15)) (v := ?_) rfl rfl (by kernel_rfl) (by kernel_rfl) (by kernel_rfl) hPQ (by rfl) (fun wq hSw => ?_) hHeld ?_
  rotate_left 1
  · replace hSw : Below x1.heap.size x1 wq := hSw; have g0 := cell_stays hSw G0.out; have g1 := cell_stays hSw G1.out; have g2 := cell_stays hSw G2.out; have g3 := cell_stays hSw G3.out; go_simp; try with_reducible rfl
  try simp only [Act.put, List.setIfInBounds_toArray, List.set_cons_zero, List.set_cons_succ]
  refine take_val (i := 2) (d := (some 16)) (v := ?_) rfl rfl (by kernel_rfl) (by kernel_rfl) (by kernel_rfl) hPQ (by rfl) (fun wq hSw => ?_) hHeld ?_
  rotate_left 1
  · replace hSw : Below x1.heap.size x1 wq := hSw; have g0 := cell_stays hSw G0.out; have g1 := cell_stays hSw G1.out; have g2 := cell_stays hSw G2.out; have g3 := cell_stays hSw G3.out; go_simp; try with_reducible rfl
  try simp only [Act.put, List.setIfInBounds_toArray, List.set_cons_zero, List.set_cons_succ]
  refine take_val (i := 3) (d := (some 17)) (v := ?_) rfl rfl (by kernel_rfl) (by kernel_rfl) (by kernel_rfl) hPQ (by rfl) (fun wq hSw => ?_) hHeld ?_
  rotate_left 1
  · replace hSw : Below x1.heap.size x1 wq := hSw; have g0 := cell_stays hSw G0.out; have g1 := cell_stays hSw G1.out; have g2 := cell_stays hSw G2.out; have g3 := cell_stays hSw G3.out; go_simp; try with_reducible rfl
  try simp only [Act.put, List.setIfInBounds_toArray, List.set_cons_zero, List.set_cons_succ]
  refine take_val (i := 4) (d := (some 18)) (v := ?_) rfl rfl (by kernel_rfl) (by kernel_rfl) (by kernel_rfl) hPQ (by rfl) (fun wq hSw => ?_) hHeld ?_
  rotate_left 1
  · replace hSw : Below x1.heap.size x1 wq := hSw; have g0 := cell_stays hSw G0.out; have g1 := cell_stays hSw G1.out; have g2 := cell_stays hSw G2.out; have g3 := cell_stays hSw G3.out; go_simp; try with_reducible rfl
  try simp only [Act.put, List.setIfInBounds_toArray, List.set_cons_zero, List.set_cons_succ]
  refine take_val (i := 5) (d := (some 19)) (v := ?_) rfl rfl (by kernel_rfl) (by kernel_rfl) (by kernel_rfl) hPQ (by rfl) (fun wq hSw => ?_) hHeld ?_
  rotate_left 1
  · replace hSw : Below x1.heap.size x1 wq := hSw; have g0 := cell_stays hSw G0.out; have g1 := cell_stays hSw G1.out; have g2 := cell_stays hSw G2.out; have g3 := cell_stays hSw G3.out; go_simp; try with_reducible rfl
  try simp only [Act.put, List.setIfInBounds_toArray, List.set_cons_zero, List.set_cons_succ]
  refine take_val (i := 6) (d := (some 20)) (v := ?_) rfl rfl (by kernel_rfl) (by kernel_rfl) (by kernel_rfl) hPQ (by rfl) (fun wq hSw => ?_) hHeld ?_
  rotate_left 1
  · replace hSw : Below x1.heap.size x1 wq := hSw; have g0 := cell_stays hSw G0.out; have g1 := cell_stays hSw G1.out; have g2 := cell_stays hSw G2.out; have g3 := cell_stays hSw G3.out; go_simp; try with_reducible rfl
  try simp only [Act.put, List.setIfInBounds_toArray, List.set_cons_zero, List.set_cons_succ]
  refine take_val (i := 7) (d := (some 21)) (v := ?_) rfl rfl (by kernel_rfl) (by kernel_rfl) (by kernel_rfl) hPQ (by rfl) (fun wq hSw => ?_) hHeld ?_
  rotate_left 1
  · replace hSw : Below x1.heap.size x1 wq := hSw; have g0 := cell_stays hSw G0.out; have g1 := cell_stays hSw G1.out; have g2 := cell_stays hSw G2.out; have g3 := cell_stays hSw G3.out; go_simp; try with_reducible rfl
  try simp only [Act.put, List.setIfInBounds_toArray, List.set_cons_zero, List.set_cons_succ]
  refine take_val (i := 8) (d := (some 22)) (v := ?_) rfl rfl (by kernel_rfl) (by kernel_rfl) (by kernel_rfl) hPQ (by rfl) (fun wq hSw => ?_) hHeld ?_
  rotate_left 1
  · replace hSw : Below x1.heap.size x1 wq := hSw; have g0 := cell_stays hSw G0.out; have g1 := cell_stays hSw G1.out; have g2 := cell_stays hSw G2.out; have g3 := cell_stays hSw G3.out; go_simp; try with_reducible rfl
  try simp only [Act.put, List.setIfInBounds_toArray, List.set_cons_zero, List.set_cons_succ]
  refine take_val (i := 9) (d := (some 23)) (v := ?_) rfl rfl (by kernel_rfl) (by kernel_rfl) (by kernel_rfl) hPQ (by rfl) (fun wq hSw => ?_) hHeld ?_
  rotate_left 1
  · replace hSw : Below x1.heap.size x1 wq := hSw; have g0 := cell_stays hSw G0.out; have g1 := cell_stays hSw G1.out; have g2 := cell_stays hSw G2.out; have g3 := cell_stays hSw G3.out; go_simp; try with_reducible rfl
  try simp only [Act.put, List.setIfInBounds_toArray, List.set_cons_zero, List.set_cons_succ]
  refine take_val (i := 10) (d := (some 24)) (v := ?_) rfl rfl (by kernel_rfl) (by kernel_rfl) (by kernel_rfl) hPQ (by rfl) (fun wq hSw => ?_) hHeld ?_
  rotate_left 1
  · replace hSw : Below x1.heap.size x1 wq := hSw; have g0 := cell_stays hSw G0.out; have g1 := cell_stays hSw G1.out; have g2 := cell_stays hSw G2.out; have g3 := cell_stays hSw G3.out; go_simp; try with_reducible rfl
  try simp only [Act.put, List.setIfInBounds_toArray, List.set_cons_zero, List.set_cons_succ]
  refine take_val (i := 11) (d := (some 25)) (v := ?_) rfl rfl (by kernel_rfl) (by kernel_rfl) (by kernel_rfl) hPQ (by rfl) (fun wq hSw => ?_) hHeld ?_
  rotate_left 1
  · replace hSw : Below x1.heap.size x1 wq := hSw; have g0 := cell_stays hSw G0.out; have g1 := cell_stays hSw G1.out; have g2 := cell_stays hSw G2.out; have g3 := cell_stays hSw G3.out; go_simp; try with_reducible rfl
  try simp only [Act.put, List.setIfInBounds_toArray, List.set_cons_zero, List.set_cons_succ]
  refine take_val (i := 12) (d := (some 26)) (v := ?_) rfl rfl (by kernel_rfl) (by kernel_rfl) (by kernel_rfl) hPQ (by rfl) (fun wq hSw => ?_) hHeld ?_
  rotate_left 1
  · replace hSw : Below x1.heap.size x1 wq := hSw; have g0 := cell_stays hSw G0.out; have g1 := cell_stays hSw G1.out; have g2 := cell_stays hSw G2.out; have g3 := cell_stays hSw G3.out; go_simp; try with_reducible rfl
  try simp only [Act.put, List.setIfInBounds_toArray, List.set_cons_zero, List.set_cons_succ]
  refine take_val (i := 13) (d := (some 27)) (v := ?_) rfl rfl (by kernel_rfl) (by kernel_rfl) (by kernel_rfl) hPQ (by rfl) (fun wq hSw => ?_) hHeld ?_
  rotate_left 1
  · replace hSw : Below x1.heap.size x1 wq := hSw; have g0 := cell_stays hSw G0.out; have g1 := cell_stays hSw G1.out; have g2 := cell_stays hSw G2.out; have g3 := cell_stays hSw G3.out; go_simp; try with_reducible rfl
  try simp only [Act.put, List.setIfInBounds_toArray, List.set_cons_zero, List.set_cons_succ]
  refine take_val (i := 14) (d := (some 28)) (v := ?_) rfl rfl (by kernel_rfl) (by kernel_rfl) (by kernel_rfl) hPQ (by rfl) (fun wq hSw => ?_) hHeld ?_
  rotate_left 1
  · replace hSw : Below x1.heap.size x1 wq := hSw; have g0 := cell_stays hSw G0.out; have g1 := cell_stays hSw G1.out; have g2 := cell_stays hSw G2.out; have g3 := cell_stays hSw G3.out; go_simp; try with_reducible rfl
  try simp only [Act.put, List.setIfInBounds_toArray, List.set_cons_zero, List.set_cons_succ]
  refine take_val (i := 15) (d := (some 29)) (v := ?_) rfl rfl (by kernel_rfl) (by kernel_rfl) (by kernel_rfl) hPQ (by rfl) (fun wq hSw => ?_) hHeld ?_
  rotate_left 1
  · replace hSw : Below x1.heap.size x1 wq := hSw; have g0 := cell_stays hSw G0.out; have g1 := cell_stays hSw G1.out; have g2 := cell_stays hSw G2.out; have g3 := cell_stays hSw G3.out; go_simp; try with_reducible rfl
  try simp only [Act.put, List.setIfInBounds_toArray, List.set_cons_zero, List.set_cons_succ]
  refine take_val (i := 16) (d := (some 30)) (v := ?_) rfl rfl (by kernel_rfl) (by kernel_rfl) (by kernel_rfl) hPQ (by rfl) (fun wq hSw => ?_) hHeld ?_
  rotate_left 1
  · replace hSw : Below x1.heap.size x1 wq := hSw; have g0 := cell_stays hSw G0.out; have g1 := cell_stays hSw G1.out; have g2 := cell_stays hSw G2.out; have g3 := cell_stays hSw G3.out; go_simp; try with_reducible rfl
  try simp only [Act.put, List.setIfInBounds_toArray, List.set_cons_zero, List.set_cons_succ]
  refine take_val (i := 17) (d := (some 31)) (v := ?_) rfl rfl (by kernel_rfl) (by kernel_rfl) (by kernel_rfl) hPQ (by rfl) (fun wq hSw => ?_) hHeld ?_
  rotate_left 1
  · replace hSw : Below x1.heap.size x1 wq := hSw; have g0 := cell_stays hSw G0.out; have g1 := cell_stays hSw G1.out; have g2 := cell_stays hSw G2.out; have g3 := cell_stays hSw G3.out; go_simp; try with_reducible rfl
  try simp only [Act.put, List.setIfInBounds_toArray, List.set_cons_zero, List.set_cons_succ]
  refine take_val (i := 18) (d := (some 32)) (v := ?_) rfl rfl (by kernel_rfl) (by kernel_rfl) (by kernel_rfl) hPQ (by rfl) (fun wq hSw => ?_) hHeld ?_
  rotate_left 1
  · replace hSw : Below x1.heap.size x1 wq := hSw; have g0 := cell_stays hSw G0.out; have g1 := cell_stays hSw G1.out; have g2 := cell_stays hSw G2.out; have g3 := cell_stays hSw G3.out; go_simp; try with_reducible rfl
  try simp only [Act.put, List.setIfInBounds_toArray, List.set_cons_zero, List.set_cons_succ]
  refine take_val (i := 19) (d := (some 33)) (v := ?_) rfl rfl (by kernel_rfl) (by kernel_rfl) (by kernel_rfl) hPQ (by rfl) (fun wq hSw => ?_) hHeld ?_
  rotate_left 1
  · replace hSw : Below x1.heap.size x1 wq := hSw; have g0 := cell_stays hSw G0.out; have g1 := cell_stays hSw G1.out; have g2 := cell_stays hSw G2.out; have g3 := cell_stays hSw G3.out; go_simp; try with_reducible rfl
  try simp only [Act.put, List.setIfInBounds_toArray, List.set_cons_zero, List.set_cons_succ]
  refine take_val (i := 20) (d := (some 34)) (v := ?_) rfl rfl (by kernel_rfl) (by kernel_rfl) (by kernel_rfl) hPQ (by rfl) (fun wq hSw => ?_) hHeld ?_
  rotate_left 1
  · replace hSw : Below x1.heap.size x1 wq := hSw; have g0 := cell_stays hSw G0.out; have g1 := cell_stays hSw G1.out; have g2 := cell_stays hSw G2.out; have g3 := cell_stays hSw G3.out; go_simp; try with_reducible rfl
  try simp only [Act.put, List.setIfInBounds_toArray, List.set_cons_zero, List.set_cons_succ]
  refine take_val (i := 21) (d := (some 35)) (v := ?_) rfl rfl (by kernel_rfl) (by kernel_rfl) (by kernel_rfl) hPQ (by rfl) (fun wq hSw => ?_) hHeld ?_
  rotate_left 1
  · replace hSw : Below x1.heap.size x1 wq := hSw; have g0 := cell_stays hSw G0.out; have g1 := cell_stays hSw G1.out; have g2 := cell_stays hSw G2.out; have g3 := cell_stays hSw G3.out; go_simp; try with_reducible rfl
  try simp only [Act.put, List.setIfInBounds_toArray, List.set_cons_zero, List.set_cons_succ]
  refine take_val (i := 22) (d := (some 36)) (v := ?_) rfl rfl (by kernel_rfl) (by kernel_rfl) (by kernel_rfl) hPQ (by rfl) (fun wq hSw => ?_) hHeld ?_
  rotate_left 1
  · replace hSw : Below x1.heap.size x1 wq := hSw; have g0 := cell_stays hSw G0.out; have g1 := cell_stays hSw G1.out; have g2 := cell_stays hSw G2.out; have g3 := cell_stays hSw G3.out; go_simp; try with_reducible rfl
  try simp only [Act.put, List.setIfInBounds_toArray, List.set_cons_zero, List.set_cons_succ]
  refine take_call (i := 23) (d := (some 37)) rfl rfl (by kernel_rfl) (by kernel_rfl) (by kernel_rfl) hPQ (by rfl) (fun wq hSw => (signed_any z2 HY2.out wq).mono (fun e q hq => ⟨hq.1, by first | exact hq.2 | exact hq.2.symm⟩)) (fun wq hSw => ?_) hHeld ?_
  · go_simp
  try simp only [Act.put, List.setIfInBounds_toArray, List.set_cons_zero, List.set_cons_succ]
  refine take_val (i := 24) (d := (some 38)) (v := ?_) rfl rfl (by kernel_rfl) (by kernel_rfl) (by kernel_rfl) hPQ (by rfl) (fun wq hSw => ?_) hHeld ?_
  rotate_left 1
  · replace hSw : Below x1.heap.size x1 wq := hSw; have g0 := cell_stays hSw G0.out; have g1 := cell_stays hSw G1.out; have g2 := cell_stays hSw G2.out; have g3 := cell_stays hSw G3.out; go_simp; try with_reducible rfl
  try simp only [Act.put, List.setIfInBounds_toArray, List.set_cons_zero, List.set_cons_succ]
  refine take_val (i := 25) (d := (some 39)) (v := ?_) rfl rfl (by kernel_rfl) (by kernel_rfl) (by kernel_rfl) hPQ (by rfl) (fun wq hSw => ?_) hHeld ?_
  rotate_left 1
  · replace hSw : Below x1.heap.size x1 wq := hSw; have g0 := cell_stays hSw G0.out; have g1 := cell_stays hSw G1.out; have g2 := cell_stays hSw G2.out; have g3 := cell_stays hSw G3.out; go_simp; try with_reducible rfl
  try simp only [Act.put, List.setIfInBounds_toArray, List.set_cons_zero, List.set_cons_succ]
  refine take_val (i := 26) (d := (some 40)) (v := ?_) rfl rfl (by kernel_rfl) (by kernel_rfl) (by kernel_rfl) hPQ (by rfl) (fun wq hSw => ?_) hHeld ?_
  rotate_left 1
  · replace hSw : Below x1.heap.size x1 wq := hSw; have g0 := cell_stays hSw G0.out; have g1 := cell_stays hSw G1.out; have g2 := cell_stays hSw G2.out; have g3 := cell_stays hSw G3.out; go_simp; try with_reducible rfl
  try simp only [Act.put, List.setIfInBounds_toArray, List.set_cons_zero, List.set_cons_succ]
  refine take_call (i := 27) (d := (some 41)) rfl rfl (by kernel_rfl) (by kernel_rfl) (by kernel_rfl) hPQ (by rfl) (fun wq hSw => (signed_any z3 HY3.out wq).mono (fun e q hq => ⟨hq.1, by first | exact hq.2 | exact hq.2.symm⟩)) (fun wq hSw => ?_) hHeld ?_
  · go_simp
  try simp only [Act.put, List.setIfInBounds_toArray, List.set_cons_zero, List.set_cons_succ]
  refine take_val (i := 28) (d := (some 42)) (v := ?_) rfl rfl (by kernel_rfl) (by kernel_rfl) (by kernel_rfl) hPQ (by rfl) (fun wq hSw => ?_) hHeld ?_
  rotate_left 1
  · replace hSw : Below x1.heap.size x1 wq := hSw; have g0 := cell_stays hSw G0.out; have g1 := cell_stays hSw G1.out; have g2 := cell_stays hSw G2.out; have g3 := cell_stays hSw G3.out; go_simp; try with_reducible rfl
  try simp only [Act.put, List.setIfInBounds_toArray, List.set_cons_zero, List.set_cons_succ]
  refine take_val (i := 29) (d := (some 43)) (v := ?_) rfl rfl (by kernel_rfl) (by kernel_rfl) (by kernel_rfl) hPQ (by rfl) (fun wq hSw => ?_) hHeld ?_
  rotate_left 1
  · replace hSw : Below x1.heap.size x1 wq := hSw; have g0 := cell_stays hSw G0.out; have g1 := cell_stays hSw G1.out; have g2 := cell_stays hSw G2.out; have g3 := cell_stays hSw G3.out; go_simp; try with_reducible rfl
  try simp only [Act.put, List.setIfInBounds_toArray, List.set_cons_zero, List.set_cons_succ]
  refine take_call (i := 30) (d := (some 44)) rfl rfl (by kernel_rfl) (by kernel_rfl) (by kernel_rfl) hPQ (by rfl) (fun wq hSw => (get_part (V.out.stays hSw) 4 4 (by omega) rfl).mono (fun e q hq => ⟨hq.1, by first | exact hq.2 | exact hq.2.symm⟩)) (fun wq hSw => ?_) hHeld ?_
  · go_simp
  try simp only [Act.put, List.setIfInBounds_toArray, List.set_cons_zero, List.set_cons_succ]
  refine take_val (i := 31) (d := (some 45)) (v := ?_) rfl rfl (by kernel_rfl) (by kernel_rfl) (by kernel_rfl) hPQ (by rfl) (fun wq hSw => ?_) hHeld ?_
  rotate_left 1
  · replace hSw : Below x1.heap.size x1 wq := hSw; have g0 := cell_stays hSw G0.out; have g1 := cell_stays hSw G1.out; have g2 := cell_stays hSw G2.out; have g3 := cell_stays hSw G3.out; go_simp; try with_reducible rfl
  try simp only [Act.put, List.setIfInBounds_toArray, List.set_cons_zero, List.set_cons_succ]
  refine take_val (i := 32) (d := (some 46)) (v := ?_) rfl rfl (by kernel_rfl) (by kernel_rfl) (by kernel_rfl) hPQ (by rfl) (fun wq hSw => ?_) hHeld ?_
  rotate_left 1
  · replace hSw : Below x1.heap.size x1 wq := hSw; have g0 := cell_stays hSw G0.out; have g1 := cell_stays hSw G1.out; have g2 := cell_stays hSw G2.out; have g3 := cell_stays hSw G3.out; go_simp; try with_reducible rfl
  try simp only [Act.put, List.setIfInBounds_toArray, List.set_cons_zero, List.set_cons_succ]
  refine take_val (i := 33) (d := (some 47)) (v := ?_) rfl rfl (by kernel_rfl) (by kernel_rfl) (by kernel_rfl) hPQ (by rfl) (fun wq hSw => ?_) hHeld ?_
  rotate_left 1
  · replace hSw : Below x1.heap.size x1 wq := hSw; have g0 := cell_stays hSw G0.out; have g1 := cell_stays hSw G1.out; have g2 := cell_stays hSw G2.out; have g3 := cell_stays hSw G3.out; go_simp; try with_reducible rfl
  try simp only [Act.put, List.setIfInBounds_toArray, List.set_cons_zero, List.set_cons_succ]
  refine take_call (i := 34) (d := (some 48)) rfl rfl (by kernel_rfl) (by kernel_rfl) (by kernel_rfl) hPQ (by rfl) (fun wq hSw => (get_part (V.out.stays hSw) 8 4 (by omega) rfl).mono (fun e q hq => ⟨hq.1, by first | exact hq.2 | exact hq.2.symm⟩)) (fun wq hSw => ?_) hHeld ?_
  · go_simp
  try simp only [Act.put, List.setIfInBounds_toArray, List.set_cons_zero, List.set_cons_succ]
  refine take_val (i := 35) (d := (some 49)) (v := ?_) rfl rfl (by kernel_rfl) (by kernel_rfl) (by kernel_rfl) hPQ (by rfl) (fun wq hSw => ?_) hHeld ?_
  rotate_left 1
  · replace hSw : Below x1.heap.size x1 wq := hSw; have g0 := cell_stays hSw G0.out; have g1 := cell_stays hSw G1.out; have g2 := cell_stays hSw G2.out; have g3 := cell_stays hSw G3.out; go_simp; try with_reducible rfl
  try simp only [Act.put, List.setIfInBounds_toArray, List.set_cons_zero, List.set_cons_succ]
  refine take_val (i := 36) (d := (some 50)) (v := ?_) rfl rfl (by kernel_rfl) (by kernel_rfl) (by kernel_rfl) hPQ (by rfl) (fun wq hSw => ?_) hHeld ?_
  rotate_left 1
  · replace hSw : Below x1.heap.size x1 wq := hSw; have g0 := cell_stays hSw G0.out; have g1 := cell_stays hSw G1.out; have g2 := cell_stays hSw G2.out; have g3 := cell_stays hSw G3.out; go_simp; try with_reducible rfl
  try simp only [Act.put, List.setIfInBounds_toArray, List.set_cons_zero, List.set_cons_succ]
  refine take_val (i := 37) (d := (some 51)) (v := ?_) rfl rfl (by kernel_rfl) (by kernel_rfl) (by kernel_rfl) hPQ (by rfl) (fun wq hSw => ?_) hHeld ?_
  rotate_left 1
  · replace hSw : Below x1.heap.size x1 wq := hSw; have g0 := cell_stays hSw G0.out; have g1 := cell_stays hSw G1.out; have g2 := cell_stays hSw G2.out; have g3 := cell_stays hSw G3.out; go_simp; try with_reducible rfl
  try simp only [Act.put, List.setIfInBounds_toArray, List.set_cons_zero, List.set_cons_succ]
  refine take_call (i := 38) (d := (some 52)) rfl rfl (by kernel_rfl) (by kernel_rfl) (by kernel_rfl) hPQ (by rfl) (fun wq hSw => (get_part (V.out.stays hSw) 12 4 (by omega) rfl).mono (fun e q hq => ⟨hq.1, by first | exact hq.2 | exact hq.2.symm⟩)) (fun wq hSw => ?_) hHeld ?_
  · go_simp
  try simp only [Act.put, List.setIfInBounds_toArray, List.set_cons_zero, List.set_cons_succ]
  refine take_val (i := 39) (d := (some 53)) (v := ?_) rfl rfl (by kernel_rfl) (by kernel_rfl) (by kernel_rfl) hPQ (by rfl) (fun wq hSw => ?_) hHeld ?_
  rotate_left 1
  · replace hSw : Below x1.heap.size x1 wq := hSw; have g0 := cell_stays hSw G0.out; have g1 := cell_stays hSw G1.out; have g2 := cell_stays hSw G2.out; have g3 := cell_stays hSw G3.out; go_simp; try with_reducible rfl
  try simp only [Act.put, List.setIfInBounds_toArray, List.set_cons_zero, List.set_cons_succ]
  refine take_val (i := 40) (d := (some 54)) (v := ?_) rfl rfl (by kernel_rfl) (by kernel_rfl) (by kernel_rfl) hPQ (by rfl) (fun wq hSw => ?_) hHeld ?_
  rotate_left 1
  · replace hSw : Below x1.heap.size x1 wq := hSw; have g0 := cell_stays hSw G0.out; have g1 := cell_stays hSw G1.out; have g2 := cell_stays hSw G2.out; have g3 := cell_stays hSw G3.out; go_simp; try with_reducible rfl
  try simp only [Act.put, List.setIfInBounds_toArray, List.set_cons_zero, List.set_cons_succ]
  refine take_val (i := 41) (d := (some 55)) (v := ?_) rfl rfl (by kernel_rfl) (by kernel_rfl) (by kernel_rfl) hPQ (by rfl) (fun wq hSw => ?_) hHeld ?_
  rotate_left 1
  · replace hSw : Below x1.heap.size x1 wq := hSw; have g0 := cell_stays hSw G0.out; have g1 := cell_stays hSw G1.out; have g2 := cell_stays hSw G2.out; have g3 := cell_stays hSw G3.out; go_simp; try with_reducible rfl
  try simp only [Act.put, List.setIfInBounds_toArray, List.set_cons_zero, List.set_cons_succ]
  refine take_call (i := 42) (d := (some 56)) rfl rfl (by kernel_rfl) (by kernel_rfl) (by kernel_rfl) hPQ (by rfl) (fun wq hSw => (get_part (V.out.stays hSw) 16 8 (by omega) rfl).mono (fun e q hq => ⟨hq.1, by first | exact hq.2 | exact hq.2.symm⟩)) (fun wq hSw => ?_) hHeld ?_
  · go_simp
  try simp only [Act.put, List.setIfInBounds_toArray, List.set_cons_zero, List.set_cons_succ]
  refine take_val (i := 43) (d := (some 57)) (v := ?_) rfl rfl (by kernel_rfl) (by kernel_rfl) (by kernel_rfl) hPQ (by rfl) (fun wq hSw => ?_) hHeld ?_
  rotate_left 1
  · replace hSw : Below x1.heap.size x1 wq := hSw; have g0 := cell_stays hSw G0.out; have g1 := cell_stays hSw G1.out; have g2 := cell_stays hSw G2.out; have g3 := cell_stays hSw G3.out; go_simp; try with_reducible rfl
  try simp only [Act.put, List.setIfInBounds_toArray, List.set_cons_zero, List.set_cons_succ]
  refine take_val (i := 44) (d := (some 58)) (v := ?_) rfl rfl (by kernel_rfl) (by kernel_rfl) (by kernel_rfl) hPQ (by rfl) (fun wq hSw => ?_) hHeld ?_
  rotate_left 1
  · replace hSw : Below x1.heap.size x1 wq := hSw; have g0 := cell_stays hSw G0.out; have g1 := cell_stays hSw G1.out; have g2 := cell_stays hSw G2.out; have g3 := cell_stays hSw G3.out; go_simp; try with_reducible rfl
  try simp only [Act.put, List.setIfInBounds_toArray, List.set_cons_zero, List.set_cons_succ]
  refine take_call (i := 45) (d := (some 59)) rfl rfl (by kernel_rfl) (by kernel_rfl) (by kernel_rfl) hPQ (by rfl) (fun wq hSw => (get_part (V.out.stays hSw) 24 8 (by omega) rfl).mono (fun e q hq => ⟨hq.1, by first | exact hq.2 | exact hq.2.symm⟩)) (fun wq hSw => ?_) hHeld ?_
  · go_simp
  try simp only [Act.put, List.setIfInBounds_toArray, List.set_cons_zero, List.set_cons_succ]
  refine take_val (i := 46) (d := (some 60)) (v := ?_) rfl rfl (by kernel_rfl) (by kernel_rfl) (by kernel_rfl) hPQ (by rfl) (fun wq hSw => ?_) hHeld ?_
  rotate_left 1
  · replace hSw : Below x1.heap.size x1 wq := hSw; have g0 := cell_stays hSw G0.out; have g1 := cell_stays hSw G1.out; have g2 := cell_stays hSw G2.out; have g3 := cell_stays hSw G3.out; go_simp; try with_reducible rfl
  try simp only [Act.put, List.setIfInBounds_toArray, List.set_cons_zero, List.set_cons_succ]
  refine take_val (i := 47) (d := (some 61)) (v := ?_) rfl rfl (by kernel_rfl) (by kernel_rfl) (by kernel_rfl) hPQ (by rfl) (fun wq hSw => ?_) hHeld ?_
  rotate_left 1
  · replace hSw : Below x1.heap.size x1 wq := hSw; have g0 := cell_stays hSw G0.out; have g1 := cell_stays hSw G1.out; have g2 := cell_stays hSw G2.out; have g3 := cell_stays hSw G3.out; go_simp; try with_reducible rfl
  try simp only [Act.put, List.setIfInBounds_toArray, List.set_cons_zero, List.set_cons_succ]
  refine take_call (i := 48) (d := (some 62)) rfl rfl (by kernel_rfl) (by kernel_rfl) (by kernel_rfl) hPQ (by rfl) (fun wq hSw => (get_part (V.out.stays hSw) 32 8 (by omega) rfl).mono (fun e q hq => ⟨hq.1, by first | exact hq.2 | exact hq.2.symm⟩)) (fun wq hSw => ?_) hHeld ?_
  · go_simp
  try simp only [Act.put, List.setIfInBounds_toArray, List.set_cons_zero, List.set_cons_succ]
  refine take_val (i := 49) (d := (some 63)) (v := ?_) rfl rfl (by kernel_rfl) (by kernel_rfl) (by kernel_rfl) hPQ (by rfl) (fun wq hSw => ?_) hHeld ?_
  rotate_left 1
  · replace hSw : Below x1.heap.size x1 wq := hSw; have g0 := cell_stays hSw G0.out; have g1 := cell_stays hSw G1.out; have g2 := cell_stays hSw G2.out; have g3 := cell_stays hSw G3.out; go_simp; try with_reducible rfl
  try simp only [Act.put, List.setIfInBounds_toArray, List.set_cons_zero, List.set_cons_succ]
  refine take_val (i := 50) (d := (some 64)) (v := ?_) rfl rfl (by kernel_rfl) (by kernel_rfl) (by kernel_rfl) hPQ (by rfl) (fun wq hSw => ?_) hHeld ?_
  rotate_left 1
  · replace hSw : Below x1.heap.size x1 wq := hSw; have g0 := cell_stays hSw G0.out; have g1 := cell_stays hSw G1.out; have g2 := cell_stays hSw G2.out; have g3 := cell_stays hSw G3.out; go_simp; try with_reducible rfl
  try simp only [Act.put, List.setIfInBounds_toArray, List.set_cons_zero, List.set_cons_succ]
  refine take_call (i := 51) (d := (some 65)) rfl rfl (by kernel_rfl) (by kernel_rfl) (by kernel_rfl) hPQ (by rfl) (fun wq hSw => (get_part (V.out.stays hSw) 40 8 (by omega) rfl).mono (fun e q hq => ⟨hq.1, by first | exact hq.2 | exact hq.2.symm⟩)) (fun wq hSw => ?_) hHeld ?_
  · go_simp
  try simp only [Act.put, List.setIfInBounds_toArray, List.set_cons_zero, List.set_cons_succ]
  refine take_val (i := 52) (d := (some 66)) (v := ?_) rfl rfl (by kernel_rfl) (by kernel_rfl) (by kernel_rfl) hPQ (by rfl) (fun wq hSw => ?_) hHeld ?_
  rotate_left 1
  · replace hSw : Below x1.heap.size x1 wq := hSw; have g0 := cell_stays hSw G0.out; have g1 := cell_stays hSw G1.out; have g2 := cell_stays hSw G2.out; have g3 := cell_stays hSw G3.out; go_simp; try with_reducible rfl
  try simp only [Act.put, List.setIfInBounds_toArray, List.set_cons_zero, List.set_cons_succ]
  refine take_alloc (i := 53) (di := (some 5)) (z := #[.int .i64 0, .int .i64 0, .int .i64 0, .int .i64 0, .int .i64 0, .int .i64 0, .int .u32 0, .int .u32 0, .int .u32 0, .int .u64 0, .int .u64 0, .int .u64 0, .int .u64 0]) (T := 25) rfl rfl (by kernel_rfl) rfl (by go_simp; try with_reducible rfl) (fun w3 hb => below_via hHeld hb hHeld.size) ?_
  clear hHeld
  intro d_ wf hgf hBF hbf hHeld
  have hgf : x1.heap.size ≤ d_ := hgf
  have BD := Lib.hid hBF
  clear hBF hbf
  try simp only [Act.put, List.setIfInBounds_toArray, List.set_cons_zero, List.set_cons_succ]
  refine take_store (j := 54) (g := d_) (vs := [.int .i64 a, .int .i64 v, .int .i64 m, .int .i64 z1, .int .i64 (sgnB z2), .int .i64 (sgnB z3), .int .u32 (dcU l 4 4), .int .u32 (dcU l 8 4), .int .u32 (dcU l 12 4), .int .u64 (dcU l 16 8), .int .u64 (dcU l 24 8), .int .u64 (dcU l 32 8), .int .u64 (dcU l 40 8)]) rfl rfl (by kernel_rfl) rfl BD.out rfl (fun cF zF => ?_) (Below.stores hgf _ _ _ hHeld) ?_
  · go_simp; rfl
  clear hHeld BD
  intro x3 hHeld hBF
  have BD := Lib.hid hBF
  clear hBF
  try simp only [Act.put, List.setIfInBounds_toArray, List.set_cons_zero, List.set_cons_succ]
  refine wpAnyH_done (by kernel_rfl) ?_ _
  have BH := Lib.hid (BH.out.stays hHeld)
  have V := Lib.hid (V.out.stays hHeld)
  have R4 := Lib.hid (R2.out.trans (hHeld.mono hz_x1))
  have hz_x3 := R4.out.size
  have o_H_D : h_ < d_ := Nat.lt_of_lt_of_le l_H hgf
  have g_D : w.heap.size ≤ d_ := Nat.le_trans hz_x1 hgf
  clear hHeld hgf R2 hz_x1 l_H
  have p3 : ((v : Int) != 3) = true := by have : ¬ v = 3 := fun h => hver (.inl h); simp; omega
  have p4 : ((v : Int) != 4) = true := by have : ¬ v = 4 := fun h => hver (.inr h); simp; omega
  clear hver
  have kD_0 : x3.cell? ⟨d_, 0, none⟩ = some (.int .i64 a) := BD.out.cell 0
  have kD_1 : x3.cell? ⟨d_, 1, none⟩ = some (.int .i64 v) := BD.out.cell 1
  have kD_2 : x3.cell? ⟨d_, 2, none⟩ = some (.int .i64 m) := BD.out.cell 2
  have kD_3 : x3.cell? ⟨d_, 3, none⟩ = some (.int .i64 z1) := BD.out.cell 3
  have kD_4 : x3.cell? ⟨d_, 4, none⟩ = some (.int .i64 (sgnB z2)) := BD.out.cell 4
  have kD_5 : x3.cell? ⟨d_, 5, none⟩ = some (.int .i64 (sgnB z3)) := BD.out.cell 5
  have kD_6 : x3.cell? ⟨d_, 6, none⟩ = some (.int .u32 (dcU l 4 4)) := BD.out.cell 6
  have kD_7 : x3.cell? ⟨d_, 7, none⟩ = some (.int .u32 (dcU l 8 4)) := BD.out.cell 7
  have kD_8 : x3.cell? ⟨d_, 8, none⟩ = some (.int .u32 (dcU l 12 4)) := BD.out.cell 8
  have kD_9 : x3.cell? ⟨d_, 9, none⟩ = some (.int .u64 (dcU l 16 8)) := BD.out.cell 9
  have kD_10 : x3.cell? ⟨d_, 10, none⟩ = some (.int .u64 (dcU l 24 8)) := BD.out.cell 10
  have kD_11 : x3.cell? ⟨d_, 11, none⟩ = some (.int .u64 (dcU l 32 8)) := BD.out.cell 11
  have kD_12 : x3.cell? ⟨d_, 12, none⟩ = some (.int .u64 (dcU l 40 8)) := BD.out.cell 12
  go_upto_region 7 with fail
  clear kD_0 kD_1 kD_2 kD_3 kD_4 kD_5 kD_6 kD_7 kD_8 kD_9 kD_10 kD_11 kD_12
  have cH := BH.out.cell
  have zH := BH.out.frozen
  go_wp2
  clear zH cH
  generalize hwd : World.setCell _ ⟨h_, 12, none⟩ _ = wd
  have hwd2 : stores x3 h_ [.int .i64 0, .int .i64 0, .int .i64 0, .int .i64 0, .int .i64 0, .int .i64 0, .int .u32 0, .int .u32 0, .int .u32 0, .int .u64 0, .int .u64 0, .int .u64 0, .int .u64 0] 0 = wd := hwd
  have D1 : Blk wd h_ 25 #[.int .i64 0, .int .i64 0, .int .i64 0, .int .i64 0, .int .i64 0, .int .i64 0, .int .u32 0, .int .u32 0, .int .u32 0, .int .u64 0, .int .u64 0, .int .u64 0, .int .u64 0] := by rw [← hwd2]; exact BH.out.filled _ rfl
  have RD : Below w.heap.size w wd := by rw [← hwd2]; exact Below.stores (by omega) _ _ _ R4.out
  clear hwd hwd2
  have d1_0 : wd.cell? ⟨h_, 0, none⟩ = some (.int .i64 0) := D1.cell 0
  have d1_1 : wd.cell? ⟨h_, 1, none⟩ = some (.int .i64 0) := D1.cell 1
  have d1_2 : wd.cell? ⟨h_, 2, none⟩ = some (.int .i64 0) := D1.cell 2
  have d1_3 : wd.cell? ⟨h_, 3, none⟩ = some (.int .i64 0) := D1.cell 3
  have d1_4 : wd.cell? ⟨h_, 4, none⟩ = some (.int .i64 0) := D1.cell 4
  have d1_5 : wd.cell? ⟨h_, 5, none⟩ = some (.int .i64 0) := D1.cell 5
  have d1_6 : wd.cell? ⟨h_, 6, none⟩ = some (.int .u32 0) := D1.cell 6
  have d1_7 : wd.cell? ⟨h_, 7, none⟩ = some (.int .u32 0) := D1.cell 7
  have d1_8 : wd.cell? ⟨h_, 8, none⟩ = some (.int .u32 0) := D1.cell 8
  have d1_9 : wd.cell? ⟨h_, 9, none⟩ = some (.int .u64 0) := D1.cell 9
  have d1_10 : wd.cell? ⟨h_, 10, none⟩ = some (.int .u64 0) := D1.cell 10
  have d1_11 : wd.cell? ⟨h_, 11, none⟩ = some (.int .u64 0) := D1.cell 11
  have d1_12 : wd.cell? ⟨h_, 12, none⟩ = some (.int .u64 0) := D1.cell 12
  try go_wp2_with fail
  refine bodyPost_ret (v := .tuple #[.agg #[.int .i64 0, .int .i64 0, .int .i64 0, .int .i64 0, .int .i64 0, .int .i64 0, .int .u32 0, .int .u32 0, .int .u32 0, .int .u64 0, .int .u64 0, .int .u64 0, .int .u64 0], .slice none 0 0, .int .i64 3]) (by simp [results, Try.results39, go_sem, *]) rfl ⟨rfl, RD⟩
end Go.Proofs.Ytnpfndlmbaafaaa
