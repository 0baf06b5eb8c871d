/- sectimecase.Flip: which byte is changed, and that it is changed. -/
import Derived.Test.YtbjmojajhkhekaaFlip
namespace Go.Proofs.Ytbjmojajhkhekaa
open Go Go.RowKit

theorem xor_ne (a y : Nat) (ha : a < 256) (hy : y < 255) : bits .xor .u8 (a : Int) (1 + (y : Int)) ≠ (a : Int) := by
  intro h
  obtain ⟨X, hX⟩ : ∃ X, X = BitVec.ofInt 8 (a : Int) := ⟨_, rfl⟩
  obtain ⟨Y, hY⟩ : ∃ Y, Y = BitVec.ofInt 8 (1 + (y : Int)) := ⟨_, rfl⟩
  have h1 : IntKind.u8.wrap ((X ^^^ Y).toNat : Int) = (a : Int) := by rw [hX, hY]; exact h
  have h2 := (X ^^^ Y).isLt
  have h3 : (X ^^^ Y).toNat = a := by
    simp only [IntKind.wrap, IntKind.bits, IntKind.signed] at h1
    simp only [Bool.false_and, Bool.false_eq_true, if_false] at h1
    omega
  have hXa : X.toNat = a := by rw [hX]; simp; omega
  have hYa : Y.toNat = 1 + y := by rw [hY]; simp; omega
  have h4 : X ^^^ Y = X := BitVec.eq_of_toNat_eq (by rw [h3, hXa])
  have h5 : Y = 0#8 := by
    have := congrArg (X ^^^ ·) h4
    simpa [← BitVec.xor_assoc] using this
  rw [h5] at hYa
  simp at hYa
  omega
set_option maxRecDepth 100000 in
set_option maxHeartbeats 4000000 in
theorem flip_set (l : List UInt8) (n : Nat) (k : Nat) (at' by' : Int) (hll : l.length = n) (hk : at' % (n : Int) = k) (hkn : k < n) (hn2 : n ≤ 100000) :
    ∃ x : UInt8, l[k]? ≠ some x ∧ ∀ (A : Option Addr) (c : Nat) (w : World), Bytes w A n c l → Calls Try.prog 28 #[.slice A n c, .int .i64 at', .int .i64 by'] w fun e w' => ∃ A' c', e = .returned (.slice A' n c') ∧ Bytes w' A' n c' (l.set k x) ∧ Fresh w.heap.size A' ∧ Below w.heap.size w w' := by
  have hn : 0 < n := by omega
  obtain ⟨y, hy⟩ : ∃ y : Nat, by' % 255 = y := ⟨(by' % 255).toNat, by omega⟩
  have hy2 : y < 255 := by omega
  obtain ⟨x, hx⟩ := xor_byte (byteAt l k) (1 + y)
  have HX := Lib.hid hx
  have HLL := Lib.hid hll
  have HK := Lib.hid hk
  have HY := Lib.hid hy
  have hne : l[k]? ≠ some x := by
    intro h
    have e1 : byteAt l k = x.toNat := by unfold byteAt; rw [List.getD, h]; rfl
    have e2 : bits .xor .u8 (byteAt l k : Int) (1 + (y : Int)) = (x.toNat : Int) := by unfold byteV at hx; injection hx
    rw [e1] at e2
    exact xor_ne x.toNat y x.toNat_lt hy2 e2
  clear hll hx hk hy
  refine ⟨x, hne, ?_⟩
  clear hne
  intro A c w h
  have HB := Lib.hid h
  clear h
  go_enter Try.func28, Try.ntmps28
  go_wp2_with fail
  refine (refJoin_any _ _ _ [l] _ (lists_made1 HB.out) n (by simp [HLL.out]) (by omega)).mono ?_
  rintro e w1 ⟨A1, c1, rfl, hv, hb⟩
  have R1 : Below w.heap.size w w1 := below_via (by go_grown) hb (by simp)
  have hs1 := R1.size
  obtain ⟨g, cur, rfl, hg, hB, hc1, hc2, hcur⟩ := own_blk hv hn
  have hg2 : w.heap.size ≤ g := by simp at hg; omega
  have hcur2 : Hid (cur.toList.take n = l.map byteV) := by unfold Hid; rw [hcur]; simp
  clear hb hv hcur hg
  have hcell := hB.cell k
  have hfro := hB.frozen k
  have hk0 : cur[k]? = some (.int .u8 (byteAt l k)) := by
    have := byteAt_map (l := l) (i := k) (by rw [HLL.out]; exact hkn)
    rw [← hcur2.out, List.getElem?_take, if_pos hkn] at this
    simpa using this
  rw [hk0] at hcell
  have HBB := Lib.hid hB
  have hcm : c1 ≤ 9223372036854775807 := by unfold maxLen at hc2; omega
  have HC2 := Lib.hid hc2
  clear hB hk0 hc2
  have ki0 : (0 : Int) ≤ (k : Int) := by omega
  have ki1 : (k : Int) < (n : Int) := by omega
  have wy : IntKind.i64.wrap (1 + (y : Int)) = 1 + (y : Int) := IntWalk.i64_in _ (by omega)
  have wy2 : IntKind.u8.wrap (1 + (y : Int)) = 1 + (y : Int) := IntWalk.u8_in _ (by omega)
  have hni : (n : Int) > 0 := by omega
  have hk := HK.out
  have hy := HY.out
  go_wp2_with fail
  refine region_tail 13 (by kernel_rfl) (by kernel_rfl) ?_
  simp only [List.take_succ_cons, List.take_zero, List.drop_succ_cons, List.drop_zero]
  repeat ((with_reducible refine wpStill_step (fun K hK => ?_)); go_simp; (with_reducible refine hK _ ?_); clear hK K)
  with_reducible refine wpStill_step (fun K hK => ?_)
  go_simp
  with_reducible refine ⟨_, within_n at' n (by omega) (by omega) _, hK _ ?_⟩
  clear hK K
  repeat ((with_reducible refine wpStill_step (fun K hK => ?_)); go_simp; (with_reducible refine hK _ ?_); clear hK K)
  with_reducible refine wpStill_step (fun K hK => ?_)
  go_simp
  with_reducible refine ⟨_, within_n by' 255 (by omega) (by omega) _, hK _ ?_⟩
  clear hK K
  repeat ((with_reducible refine wpStill_step (fun K hK => ?_)); go_simp; (with_reducible refine hK _ ?_); clear hK K)
  refine wpStill_nil ?_
  clear hk hy
  go_wp2
  go_ret
  rw [HX.out]
  have hP := HBB.out.put k (byteV x)
  have hr := blk_rd (n := n) (xs := (l.set k x).map byteV) hP (by rw [take_set_cells hcur2.out hkn, List.map_set]) (by simp [HLL.out]) hc1 HC2.out
  exact ⟨_, c1, rfl, Bytes.stays hr ((Below.refl _ _).drew), (fun a ha => by cases ha; exact hg2), (R1.setCell (p := ⟨g, k, none⟩) hg2 _).drew⟩
end Go.Proofs.Ytbjmojajhkhekaa
