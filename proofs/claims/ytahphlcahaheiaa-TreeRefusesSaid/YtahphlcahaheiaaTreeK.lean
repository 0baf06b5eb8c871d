/- Helpers of the statements of layer 7: known, light, leaves. -/
import Derived.Test.YtahphlcahaheiaaTreeH
import Derived.Test.YtahphlcahaheiaaHex
import Derived.Test.YtahphlcahaheiaaWBytesF
import Derived.Test.YtahphlcahaheiaaWithW
namespace Go.Proofs.Ytahphlcahaheiaa
open Go.RowKit

theorem Lists.nil (w : World) : Lists w none 0 0 [] := ⟨[], Rd.nil _ _ _ (by decide) _, rfl, fun i l h => by simp at h⟩
set_option maxRecDepth 100000 in
set_option maxHeartbeats 4000000 in
theorem treeKnown (w : World) : Calls Try.prog 39 #[] w fun e w' => e = .returned (.bool true) ∧ Below w.heap.size w w' := by
  have h1 : Hid (strOf (hexL (rootL (([] : List (List UInt8)).map leafL))) = ⟨#[101, 51, 98, 48, 99, 52, 52, 50, 57, 56, 102, 99, 49, 99, 49, 52, 57, 97, 102, 98, 102, 52, 99, 56, 57, 57, 54, 102, 98, 57, 50, 52, 50, 55, 97, 101, 52, 49, 101, 52, 54, 52, 57, 98, 57, 51, 52, 99, 97, 52, 57, 53, 57, 57, 49, 98, 55, 56, 53, 50, 98, 56, 53, 53]⟩) := by
    unfold Hid
    rw [List.map_nil, rootL, if_pos (show ([] : List (List UInt8)).length = 0 from rfl)]
    decide +kernel
  have h2 : Hid (strOf (hexL (rootL (([[]] : List (List UInt8)).map leafL))) = ⟨#[54, 101, 51, 52, 48, 98, 57, 99, 102, 102, 98, 51, 55, 97, 57, 56, 57, 99, 97, 53, 52, 52, 101, 54, 98, 98, 55, 56, 48, 97, 50, 99, 55, 56, 57, 48, 49, 100, 51, 102, 98, 51, 51, 55, 51, 56, 55, 54, 56, 53, 49, 49, 97, 51, 48, 54, 49, 55, 97, 102, 97, 48, 49, 100]⟩) := by
    unfold Hid
    rw [rootL_one _ rfl]
    decide +kernel
  go_enter Try.func39, Try.ntmps39
  go_wp2_with fail
  refine (rootOf_ok (n := 0) (ls := []) (Lists.nil _) (by omega) (fun l h => by cases h)).mono ?_
  rintro e w1 ⟨A1, c1, rfl, hv, hf, hb⟩
  have hbx : Below w.heap.size w w1 := below_via (by go_grown) hb (by first | (simp; done) | (simp; omega))
  have V1 := Lib.hid hv
  have R1 := Lib.hid hbx
  have hs1 := R1.out.size
  clear hb hbx hv
  clear hf
  go_wp2_with fail
  refine (rootOf_ok (n := 1) (ls := [[]]) (lists_made1 (Bytes.nil _ _ _ (by decide))) (by omega) (fun l h => by simp at h; subst h; simp)).mono ?_
  rintro e w2 ⟨A2, c2, rfl, hv, hf, hb⟩
  have hbx : Below w1.heap.size w1 w2 := below_via (by go_grown) hb (by first | (simp; done) | (simp; omega))
  have V1 := Lib.hid (V1.out.stays hbx)
  have V2 := Lib.hid hv
  have R2 := Lib.hid (R1.out.trans (hbx.mono hs1))
  have hs2 := R2.out.size
  clear hb hbx hv
  clear R1
  clear hf
  go_wp2_with fail
  refine (hex_any _ _ _ _ _ V1.out (by omega)).mono ?_
  rintro e w3 ⟨rfl, hb⟩
  have hbx : Below w2.heap.size w2 w3 := below_via (by go_grown) hb (by first | (simp; done) | (simp; omega))
  have V1 := Lib.hid (V1.out.stays hbx)
  have V2 := Lib.hid (V2.out.stays hbx)
  have R3 := Lib.hid (R2.out.trans (hbx.mono hs2))
  have hs3 := R3.out.size
  clear hb hbx 
  clear R2
  rw [h1.out]
  go_wp2_with fail
  refine (hex_any _ _ _ _ _ V2.out (by omega)).mono ?_
  rintro e w4 ⟨rfl, hb⟩
  have hbx : Below w3.heap.size w3 w4 := below_via (by go_grown) hb (by first | (simp; done) | (simp; omega))
  have V1 := Lib.hid (V1.out.stays hbx)
  have V2 := Lib.hid (V2.out.stays hbx)
  have R4 := Lib.hid (R3.out.trans (hbx.mono hs3))
  have hs4 := R4.out.size
  clear hb hbx 
  clear R3
  rw [h2.out]
  go_wp2
  go_ret
  exact ⟨rfl, R4.out⟩
/-- The leaves of a statement. -/
def leavesL (x n : Nat) : List (List UInt8) := (List.range n).map fun i => wbytesL (x + i) (i % 5)
theorem leavesL_length (x n : Nat) : (leavesL x n).length = n := by simp [leavesL]
theorem leavesL_few (x n : Nat) : few (leavesL x n) := fun l hl => by
  obtain ⟨i, _, rfl⟩ := List.mem_map.1 hl
  rw [wbytesL_length]; omega
theorem leavesL_succ (x n : Nat) : leavesL x (n + 1) = leavesL x n ++ [wbytesL (x + n) (n % 5)] := by
  unfold leavesL
  rw [List.range_succ, List.map_append]; rfl
set_option maxRecDepth 100000 in
set_option maxHeartbeats 4000000 in
theorem leaves_any (s : Int) (x n : Nat) (w : World) (hs : s % 1000 = (x : Int)) (hn : n ≤ 1000) :
    Calls Try.prog 37 #[.int .i64 s, .int .i64 n] w fun e w' => ∃ A' c', e = .returned (.slice A' n c') ∧ OwnItems 1 encB id 22 w' w.heap.size A' n c' (leavesL x n) ∧ Below w.heap.size w w' := by
  obtain ⟨i0, hi, hz0, hz1, hz2⟩ := info_parts infoHash
  have hx : x < 1000 := by omega
  have HX := Lib.hid hs
  clear hs
  go_enter Try.func37, Try.ntmps37
  go_wp2
  go_loopw [5, 6] (fun o i' wr => ∃ (j cc : Nat) (AA : Option Addr), j ≤ n ∧ i' = .int .i64 j ∧ o = .slice AA j cc ∧ Hid (OwnItems 1 encB id 22 wr w.heap.size AA j cc (leavesL x j)) ∧ Below w.heap.size w wr) (fun _ i' _ => n - (intOf i').toNat)
  case atStart => exact ⟨0, 0, none, by omega, rfl, rfl, OwnItems.nil _ _, by go_grown⟩
  case round =>
    obtain ⟨j, cc, AA, hj, rfl, rfl, HP, hbr⟩ := hrel
    have hsr := hbr.size
    by_cases hjn : j < n
    · have hji : (j : Int) < (n : Int) := by omega
      go_wp2_with fail
      refine (within_any s 1000 (by decide) (by decide) _).mono ?_
      rintro e w1 ⟨rfl, rfl⟩
      rw [HX.out]
      obtain ⟨y, hy⟩ : ∃ y : Nat, (j : Int) % 5 = (y : Int) := ⟨j % 5, by omega⟩
      have hy2 : y = j % 5 := by omega
      have HY := Lib.hid hy2
      have hy3 : y ≤ 4 := by omega
      clear hy2
      have hxj : (x : Int) + (j : Int) = ((x + j : Nat) : Int) := by omega
      have HXJ := Lib.hid hxj
      clear hxj
      go_wp2_with fail
      clear hy
      rw [HXJ.out]
      refine (wbytes_new (x + j) y _ (by omega) (by omega) (by omega)).mono ?_
      rintro e w3 ⟨A3, c3, rfl, hv, hf, hb⟩
      have VR := Lib.hid hv
      have HO := Lib.hid (Off.fresh (n := y) (bad := (Value.slice AA j cc).ownBlock) hf HP.out.lt)
      have HP := Lib.hid (HP.out.stays hb)
      have R3 := Lib.hid (hbr.trans (hb.mono hsr))
      have hs3 := R3.out.size
      clear hv hf hb
      go_wp2_with (at_builtin; refine wpList_append_items rfl _ _ 33 rfl i0 _ 24 Try.underlying33 hi hz0 hz1 hz2 rfl (by decide) rfl (HP.out.stays ((Below.refl _ _).alloc (Nat.le_refl _) _)) rfl (wbytesL (x + j) y) rfl (rd_one _ _ _) (by simp [encB, Value.oneCell']) (VR.out.stays ((Below.refl _ _).alloc (Nat.le_refl _) _)) HO.out ?c1 ?c2 ?c3 ?_)
      case c1 => unfold maxLen; omega
      case c2 => omega
      case c3 => simp; omega
      intro A8 c8 w8 hown8 hg8 hb8
      have H8 := Lib.hid hown8
      have hB8 : Below w.heap.size w w8 := (R3.out.alloc hs3 _).trans hb8
      clear hown8 hg8 hb8
      go_wp2
      go_roundw
      case rel => exact ⟨j + 1, c8, A8, by omega, by go_num, rfl, by unfold Hid; rw [leavesL_succ, ← HY.out]; exact H8.out, hB8⟩
      case measure => simp [intOf]; omega
    · obtain rfl : j = n := by omega
      go_wp2
      go_ret
      exact ⟨_, _, rfl, HP.out, hbr⟩
end Go.Proofs.Ytahphlcahaheiaa
