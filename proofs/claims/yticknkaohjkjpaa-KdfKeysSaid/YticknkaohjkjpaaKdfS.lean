/- KdfKeys: the walk. -/
import Derived.Test.YticknkaohjkjpaaKdfK
import Derived.Test.YticknkaohjkjpaaKdfD
import Derived.Test.YticknkaohjkjpaaWithW
import Derived.Deep.RegionWith
import Derived.Deep.DeepCutAuto
namespace Go.Proofs.Yticknkaohjkjpaa
open Go.RowKit

def z32 : List UInt8 := List.replicate 32 0
theorem made_32z : madeCells #[Value.int .u8 0] 32 = rowB z32 := by
  apply Array.toList_inj.mp
  rw [toList_madeCells_one]
  simp [rowB, byteV, z32]
theorem make_32z (w : World) : (Instr.makeSlice 22 (.int .i64 32) (.int .i64 32)).run Try.prog w =
    .ok (.slice (some ⟨w.heap.size, 0, none⟩) 32 32) (w.alloc (.cells (rowB z32) 5)) := by
  rw [← made_32z]
  exact make_bytes 32 (by decide) w
theorem row32 (w : World) : Bytes (w.alloc (.cells (rowB z32) 5)) (some ⟨w.heap.size, 0, none⟩) 32 32 z32 := Bytes.made (l := z32) (by decide)
set_option maxRecDepth 100000 in
set_option maxHeartbeats 40000000 in
theorem kdfKeys_walk (a n : Int) (A : Option Addr) (nb c : Nat) (b : List UInt8) (w : World) (h : Bytes w A nb c b) :
    Calls Try.prog 4 #[.int .i64 a, .int .i64 n, .slice A nb c] w fun e w' => e = .returned (.bool true) ∧ Below w.heap.size w w' := by
  have q1 := h.le
  have q2 := h.cap
  have BB := Lib.hid h
  clear h
  by_cases hn : 100 < nb
  · have hni : (nb : Int) > 100 := by omega
    go_enter Try.func4, Try.ntmps4
    go_wp2_with fail
    refine (kdfKnown _).mono ?_
    rintro e w1 ⟨rfl, hb⟩
    go_wp2
    go_ret
    exact ⟨rfl, hb⟩
  have hni : ¬ (nb : Int) > 100 := by omega
  go_enter Try.func4, Try.ntmps4
  go_wp2_with fail
  refine (within_any a 1000 (by decide) (by decide) _).mono ?_
  rintro e w1 ⟨rfl, rfl⟩
  go_wp2_with fail
  refine (within_any n 40 (by decide) (by decide) _).mono ?_
  rintro e w1 ⟨rfl, rfl⟩
  obtain ⟨x, hx, hx20⟩ : ∃ x : Nat, a % 1000 = (x : Int) ∧ x < 1000 := ⟨(a % 1000).toNat, by omega, by omega⟩
  obtain ⟨y, hy, hy20⟩ : ∃ y : Nat, n % 40 = (y : Int) ∧ y < 40 := ⟨(n % 40).toNat, by omega, by omega⟩
  rw [hx, hy]
  go_wp2_with fail
  rw [show (65 : Int) + (y : Int) = ((65 + y : Nat) : Int) by omega]
  refine (wbytes_any x (65 + y) _ (by omega) (by omega) (by omega)).mono ?_
  rintro e w1 ⟨AL, cL, rfl, hv, hb⟩
  have hbx : Below w.heap.size w w1 := below_via (by go_grown) hb (by first | (simp; done) | (simp; omega))
  have BB := Lib.hid (BB.out.stays hbx)
  have LB := Lib.hid hv
  have R1 := Lib.hid hbx
  have hs1 := R1.out.size
  clear hb hbx hv
  go_wp2_with fail
  refine (within_any a 1000 (by decide) (by decide) _).mono ?_
  rintro e w2 ⟨rfl, rfl⟩
  go_wp2_with fail
  refine (within_any n 60 (by decide) (by decide) _).mono ?_
  rintro e w2 ⟨rfl, rfl⟩
  obtain ⟨z, hz, hz20⟩ : ∃ z : Nat, n % 60 = (z : Int) ∧ z < 60 := ⟨(n % 60).toNat, by omega, by omega⟩
  first | rw [hx, hz] | rw [hz]
  clear hx hy hz
  go_wp2_with fail
  refine (wbytes_any x z _ (by omega) (by omega) (by omega)).mono ?_
  rintro e w2 ⟨AS, cS, rfl, hv, hb⟩
  have hbx : Below w1.heap.size w1 w2 := below_via (by go_grown) hb (by first | (simp; done) | (simp; omega))
  have BB := Lib.hid (BB.out.stays hbx)
  have LB := Lib.hid (LB.out.stays hbx)
  have SB := Lib.hid hv
  have R2 := Lib.hid (R1.out.trans (hbx.mono hs1))
  have hs2 := R2.out.size
  clear hb hbx hv
  clear R1
  obtain ⟨NL, hNL⟩ : ∃ x, 65 + y = x := ⟨_, rfl⟩
  have hNL2 : NL ≤ 200 := by omega
  rw [hNL] at LB ⊢
  obtain ⟨NZ, hNZ⟩ : ∃ x, z + 2 = x := ⟨_, rfl⟩
  have hNZ2 : NZ ≤ 200 := by omega
  have R := R2
  obtain ⟨wn, rfl⟩ : ∃ x, x = w2 := ⟨_, rfl⟩
  have hsR := hs2
  clear R2 hs2
  have HZ : Hid (macL (wbytesL x z ++ [0, 0]) b = macL (wbytesL x z) b) := macL_zeros (wbytesL x z) b 2 (by rw [wbytesL_length]; omega)
  have HZ2 : Hid (macL z32 b = macL [] b) := macL_zeros [] b 32 (by decide)
  generalize wbytesL x NL = L at *
  obtain ⟨S, hS⟩ : ∃ S, S = wbytesL x z := ⟨_, rfl⟩
  rw [← hS] at SB HZ
  clear hS
  have hmk := make_32z
  go_upto_region 5 with fail
  go_region_with (first
    | (go_at_call 20; refine (kdfKnown _).mono ?_; rintro e wn ⟨rfl, hb⟩; have BB := Lib.hid (BB.out.stays (below_via (by go_grown) hb (by first | (simp; done) | (simp; omega)))); have LB := Lib.hid (LB.out.stays (below_via (by go_grown) hb (by first | (simp; done) | (simp; omega)))); have SB := Lib.hid (SB.out.stays (below_via (by go_grown) hb (by first | (simp; done) | (simp; omega)))); have R := Lib.hid (R.out.trans ((below_via (by go_grown) hb (by first | (simp; done) | (simp; omega))).mono hsR)); have hsR := R.out.size; clear hb)
    | (go_at_call_of 21 (Value.slice AL NL cL); refine (mac_any L b _ _ _ _ _ _ _ LB.out BB.out (by omega)).mono ?_; rintro e wn ⟨A1, c1, rfl, hv, hb⟩; have BB := Lib.hid (BB.out.stays (below_via (by go_grown) hb (by first | (simp; done) | (simp; omega)))); have LB := Lib.hid (LB.out.stays (below_via (by go_grown) hb (by first | (simp; done) | (simp; omega)))); have SB := Lib.hid (SB.out.stays (below_via (by go_grown) hb (by first | (simp; done) | (simp; omega)))); have V1 := Lib.hid (show Bytes _ _ _ _ _ from own_rd hv); have R := Lib.hid (R.out.trans ((below_via (by go_grown) hb (by first | (simp; done) | (simp; omega))).mono hsR)); have hsR := R.out.size; clear hb)
    | (go_at_call_of 22 (Value.slice AL NL cL); refine (refMac_any L b _ _ _ _ _ _ _ LB.out BB.out (by omega)).mono ?_; rintro e wn ⟨A2, c2, rfl, hv, hb⟩; have BB := Lib.hid (BB.out.stays (below_via (by go_grown) hb (by first | (simp; done) | (simp; omega)))); have SB := Lib.hid (SB.out.stays (below_via (by go_grown) hb (by first | (simp; done) | (simp; omega)))); have V1 := Lib.hid (V1.out.stays (below_via (by go_grown) hb (by first | (simp; done) | (simp; omega)))); have V2 := Lib.hid (show Bytes _ _ _ _ _ from own_rd hv); have R := Lib.hid (R.out.trans ((below_via (by go_grown) hb (by first | (simp; done) | (simp; omega))).mono hsR)); have hsR := R.out.size; clear hb)
    | (go_at_call_of 17 (Value.slice A1 32 c1); refine (refSame_true V1.out V2.out (rfl)).mono ?_; rintro e wn ⟨rfl, rfl⟩)
    | (go_at_call 23; have hL := lists_made2 (E := 22) (SB.out.stays (w' := wn.alloc (.cells #[.int .u8 0, .int .u8 0] 5)) (by go_grown)) (bytes_lit (w := wn) (E := 5) (n := 2) [0, 0] #[.int .u8 0, .int .u8 0] rfl rfl (by decide)); rw [show (wn.alloc (.cells #[.int .u8 0, .int .u8 0] 5)).heap.size = wn.heap.size + 1 by simp] at hL; refine (refJoin_any _ _ _ [S, [0, 0]] _ hL NZ (by rw [List.flatten_cons, List.flatten_cons, List.flatten_nil, List.append_nil, List.length_append, SB.out.len]; exact hNZ) (by omega)).mono ?_; rintro e wn ⟨A3, c3, rfl, hv, hb⟩; have BB := Lib.hid (BB.out.stays (below_via (by go_grown) hb (by first | (simp; done) | (simp; omega)))); have SB := Lib.hid (SB.out.stays (below_via (by go_grown) hb (by first | (simp; done) | (simp; omega)))); have JB := Lib.hid (rd_join2 hv); have R := Lib.hid (R.out.trans ((below_via (by go_grown) hb (by first | (simp; done) | (simp; omega))).mono hsR)); have hsR := R.out.size; clear hb)
    | (go_at_call_of 21 (Value.slice A3 NZ c3); refine (mac_any (S ++ [0, 0]) b _ _ _ _ _ _ _ JB.out BB.out (by omega)).mono ?_; rintro e wn ⟨A4, c4, rfl, hv, hb⟩; have BB := Lib.hid (BB.out.stays (below_via (by go_grown) hb (by first | (simp; done) | (simp; omega)))); have SB := Lib.hid (SB.out.stays (below_via (by go_grown) hb (by first | (simp; done) | (simp; omega)))); have V3 := Lib.hid (show Bytes _ _ _ _ _ from own_rd hv); have R := Lib.hid (R.out.trans ((below_via (by go_grown) hb (by first | (simp; done) | (simp; omega))).mono hsR)); have hsR := R.out.size; clear hb)
    | (go_at_call_of 21 (Value.slice AS z cS); refine (mac_any S b _ _ _ _ _ _ _ SB.out BB.out (by omega)).mono ?_; rintro e wn ⟨A5, c5, rfl, hv, hb⟩; have BB := Lib.hid (BB.out.stays (below_via (by go_grown) hb (by first | (simp; done) | (simp; omega)))); have V3 := Lib.hid (V3.out.stays (below_via (by go_grown) hb (by first | (simp; done) | (simp; omega)))); have V4 := Lib.hid (show Bytes _ _ _ _ _ from own_rd hv); have R := Lib.hid (R.out.trans ((below_via (by go_grown) hb (by first | (simp; done) | (simp; omega))).mono hsR)); have hsR := R.out.size; clear hb)
    | (go_at_call_of 17 (Value.slice A4 32 c4); refine (refSame_true V3.out V4.out (HZ.out)).mono ?_; rintro e wn ⟨rfl, rfl⟩)
    | (go_at_call 24; (with_reducible show Calls _ _ _ wn _); with_reducible refine (extract_any z32 b _ _ _ _ _ _ _ ZB.out BB.out (by omega)).mono ?_; rintro e wn ⟨A7, c7, rfl, hv, hb⟩; have V5 := Lib.hid (V5.out.stays (below_via (by go_grown) hb (by first | (simp; done) | (simp; omega)))); have V6 := Lib.hid hv; have R := Lib.hid (R.out.trans ((below_via (by go_grown) hb (by first | (simp; done) | (simp; omega))).mono hsR)); have hsR := R.out.size; clear hb)
    | (go_at_call 24; (with_reducible show Calls _ _ _ (World.alloc wn _) _); with_reducible refine (extract_any z32 b _ _ _ _ _ _ (wn.alloc (.cells (rowB z32) 5)) (row32 wn) (BB.out.stays (by go_grown)) (by omega)).mono ?_; rintro e wn ⟨A7, c7, rfl, hv, hb⟩; have V5 := Lib.hid (V5.out.stays (below_via (by go_grown) hb (by first | (simp; done) | (simp; omega)))); have V6 := Lib.hid hv; have R := Lib.hid (R.out.trans ((below_via (by go_grown) hb (by first | (simp; done) | (simp; omega))).mono hsR)); have hsR := R.out.size; clear hb)
    | (go_at_call 24; (with_reducible show Calls _ _ _ (World.alloc wn _) _); have zrow := row32 wn; refine (extract_any [] b _ _ _ _ _ _ (wn.alloc (.cells (rowB z32) 5)) (Bytes.nil _ _ _ (by decide)) (BB.out.stays (by go_grown)) (by omega)).mono ?_; rintro e wn ⟨A6, c6, rfl, hv, hb⟩; have BB := Lib.hid (BB.out.stays (below_via (by go_grown) hb (by first | (simp; done) | (simp; omega)))); have V5 := Lib.hid hv; have ZB := Lib.hid (zrow.stays hb); have R := Lib.hid (R.out.trans ((below_via (by go_grown) hb (by first | (simp; done) | (simp; omega))).mono hsR)); have hsR := R.out.size; clear hb)
    | (go_at_call 24; (with_reducible show Calls _ _ _ wn _); refine (extract_any [] b _ _ _ _ _ _ wn (Bytes.nil _ _ _ (by decide)) BB.out (by omega)).mono ?_; rintro e wn ⟨A6, c6, rfl, hv, hb⟩; have BB := Lib.hid (BB.out.stays (below_via (by go_grown) hb (by first | (simp; done) | (simp; omega)))); have V5 := Lib.hid hv; have R := Lib.hid (R.out.trans ((below_via (by go_grown) hb (by first | (simp; done) | (simp; omega))).mono hsR)); have hsR := R.out.size; clear hb)
    | (go_at_call_of 17 (Value.slice A6 32 c6); refine (refSame_true V5.out V6.out (HZ2.out.symm)).mono ?_; rintro e wn ⟨rfl, rfl⟩))
  all_goals
    go_wp2_with fail
    go_ret
    exact ⟨rfl, R.out⟩
end Go.Proofs.Yticknkaohjkjpaa
