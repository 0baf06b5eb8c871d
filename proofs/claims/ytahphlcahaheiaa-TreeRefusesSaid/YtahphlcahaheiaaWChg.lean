/- sectimeworld.Key, Changed. -/
import Derived.Test.YtahphlcahaheiaaWBytes
import Derived.Test.YtahphlcahaheiaaWithW
import Derived.Test.YtahphlcahaheiaaItems
import Derived.Test.YtahphlcahaheiaaBlk
import Derived.Test.YtahphlcahaheiaaReg
namespace Go.Proofs.Ytahphlcahaheiaa
open Go.RowKit

set_option maxRecDepth 100000 in
set_option maxHeartbeats 4000000 in
theorem key_any (s : Nat) (w : World) (hs : s ≤ 9223372036854775807) :
    Calls Try.prog 20 #[.int .i64 s] w fun e w' => ∃ A' c', e = .returned (.slice A' 32 c') ∧ Bytes w' A' 32 c' (wbytesL s 32) ∧ Below w.heap.size w w' := by
  go_enter Try.func20, Try.ntmps20
  go_wp2_with fail
  refine (wbytes_any s 32 _ (by omega) hs (by omega)).mono ?_
  rintro e w1 ⟨A1, c1, rfl, hv, hb⟩
  have V1 := Lib.hid hv
  clear hv
  go_wp2
  go_ret
  exact ⟨_, _, rfl, V1.out, hb⟩
theorem own_blk {w : World} {B e n c : Nat} {A : Option Addr} {xs : List Value} (h : w.ownsRow B e 1 (.slice A n c) n xs) (hn : 0 < n) :
    ∃ g cur, A = some ⟨g, 0, none⟩ ∧ B ≤ g ∧ Blk w g e cur ∧ n ≤ c ∧ c ≤ maxLen ∧ cur.toList.take n = xs := by
  obtain ⟨hl, h2⟩ := h
  rcases h2 with ⟨hv, h0⟩ | ⟨g, cap, cur, hv, hB, hg, hn', hc, hs, ht⟩
  · exfalso
    rw [h0] at hl; simp at hl; omega
  · injection hv with h1 h2 h3
    subst h1 h3
    exact ⟨g, cur, rfl, hB, hg, hn', hc, by simpa using ht⟩
theorem blk_rd {w : World} {e g n c : Nat} {cur : Array Value} {xs : List Value} (h : Blk w g e cur) (hx : cur.toList.take n = xs) (hl : xs.length = n) (h1 : n ≤ c) (h2 : c ≤ maxLen) : Rd w 1 (some ⟨g, 0, none⟩) n c xs := by
  refine ⟨by omega, h1, h2, fun i u hu => ⟨g, 0, rfl, ?_⟩⟩
  rw [Nat.zero_add, h.cell i]
  rw [← hx, List.getElem?_take] at hu
  split at hu
  · simpa using hu
  · cases hu
theorem take_set_cells {cur : Array Value} {n k : Nat} {xs : List Value} {u : Value} (hx : cur.toList.take n = xs) (hk : k < n) : (cur.setIfInBounds k u).toList.take n = xs.set k u := by
  rw [Array.toList_setIfInBounds, List.take_set, hx]
theorem xor_byte (a b : Int) : ∃ x : UInt8, Value.int .u8 (bits .xor .u8 a b) = byteV x := by
  have h0 : 0 ≤ bits .xor .u8 a b ∧ bits .xor .u8 a b < 256 := by
    show 0 ≤ IntKind.u8.wrap _ ∧ IntKind.u8.wrap _ < 256
    simp only [IntKind.wrap, IntKind.bits, IntKind.signed]
    constructor <;> simp <;> omega
  refine ⟨UInt8.ofNat (bits .xor .u8 a b).toNat, ?_⟩
  unfold byteV
  congr 1
  simp
  omega
theorem within_n (v : Int) (n : Nat) (h1 : 1 ≤ n) (h2 : n ≤ 9223372036854775807) (w : World) :
    Calls Try.prog 21 #[.int .i64 v, .int .i64 n] w fun e w' => e = .returned (.int .i64 (v % n)) ∧ w' = w :=
  (within_any v n (by omega) (by omega) w).mono fun _ _ h => ⟨h.1, h.2.symm⟩
set_option maxRecDepth 100000 in
set_option maxHeartbeats 4000000 in
theorem changed_any (l : List UInt8) (A : Option Addr) (n c : Nat) (at' by' : Int) (w : World) (h : Bytes w A n c l) (hn : 0 < n) (hn2 : n ≤ 100000) :
    ∃ l' : List UInt8, l'.length = n ∧ ∀ (A : Option Addr) (c : Nat) (w : World), Bytes w A n c l → Calls Try.prog 25 #[.slice A n c, .int .i64 at', .int .i64 by'] w fun e w' => ∃ A' c', e = .returned (.slice A' n c') ∧ Bytes w' A' n c' l' ∧ Fresh w.heap.size A' ∧ Below w.heap.size w w' := by
  have hll := h.len
  obtain ⟨k, hk⟩ : ∃ k : Nat, at' % (n : Int) = k := ⟨(at' % (n : Int)).toNat, by have := Int.emod_nonneg at' (show (n : Int) ≠ 0 by omega); omega⟩
  have hkn : k < n := by have := Int.emod_lt_of_pos at' (show (0 : Int) < n by omega); omega
  obtain ⟨y, hy⟩ : ∃ y : Nat, by' % 255 = y := ⟨(by' % 255).toNat, by omega⟩
  have hy2 : y < 255 := by omega
  obtain ⟨x, hx⟩ := xor_byte (byteAt l k) (1 + y)
  have HX := Lib.hid hx
  have HLL := Lib.hid hll
  have HK := Lib.hid hk
  have HY := Lib.hid hy
  clear h hll hx hk hy
  refine ⟨l.set k x, by rw [List.length_set, HLL.out], ?_⟩
  intro A c w h
  have HB := Lib.hid h
  clear h
  go_enter Try.func25, Try.ntmps25
  go_wp2_with fail
  refine (refJoin_any _ _ _ [l] _ (lists_made1 HB.out) n (by simp [HLL.out]) (by omega)).mono ?_
  rintro e w1 ⟨A1, c1, rfl, hv, hb⟩
  have R1 : Below w.heap.size w w1 := below_via (by go_grown) hb (by simp)
  have hs1 := R1.size
  obtain ⟨g, cur, rfl, hg, hB, hc1, hc2, hcur⟩ := own_blk hv hn
  have hg2 : w.heap.size ≤ g := by simp at hg; omega
  have hcur2 : Hid (cur.toList.take n = l.map byteV) := by unfold Hid; rw [hcur]; simp
  clear hb hv hcur hg
  have hcell := hB.cell k
  have hfro := hB.frozen k
  have hk0 : cur[k]? = some (.int .u8 (byteAt l k)) := by
    have := byteAt_map (l := l) (i := k) (by rw [HLL.out]; exact hkn)
    rw [← hcur2.out, List.getElem?_take, if_pos hkn] at this
    simpa using this
  rw [hk0] at hcell
  have HBB := Lib.hid hB
  have hcm : c1 ≤ 9223372036854775807 := by unfold maxLen at hc2; omega
  have HC2 := Lib.hid hc2
  clear hB hk0 hc2
  have ki0 : (0 : Int) ≤ (k : Int) := by omega
  have ki1 : (k : Int) < (n : Int) := by omega
  have wy : IntKind.i64.wrap (1 + (y : Int)) = 1 + (y : Int) := IntWalk.i64_in _ (by omega)
  have wy2 : IntKind.u8.wrap (1 + (y : Int)) = 1 + (y : Int) := IntWalk.u8_in _ (by omega)
  have hk := HK.out
  have hy := HY.out
  go_wp2_with fail
  refine region_tail 13 (by kernel_rfl) (by kernel_rfl) ?_
  simp only [List.take_succ_cons, List.take_zero, List.drop_succ_cons, List.drop_zero]
  repeat ((with_reducible refine wpStill_step (fun K hK => ?_)); go_simp; (with_reducible refine hK _ ?_); clear hK K)
  with_reducible refine wpStill_step (fun K hK => ?_)
  go_simp
  with_reducible refine ⟨_, within_n at' n (by omega) (by omega) _, hK _ ?_⟩
  clear hK K
  repeat ((with_reducible refine wpStill_step (fun K hK => ?_)); go_simp; (with_reducible refine hK _ ?_); clear hK K)
  with_reducible refine wpStill_step (fun K hK => ?_)
  go_simp
  with_reducible refine ⟨_, within_n by' 255 (by omega) (by omega) _, hK _ ?_⟩
  clear hK K
  repeat ((with_reducible refine wpStill_step (fun K hK => ?_)); go_simp; (with_reducible refine hK _ ?_); clear hK K)
  refine wpStill_nil ?_
  clear hk hy
  go_wp2
  go_ret
  rw [HX.out]
  have hP := HBB.out.put k (byteV x)
  have hr := blk_rd (n := n) (xs := (l.set k x).map byteV) hP (by rw [take_set_cells hcur2.out hkn, List.map_set]) (by simp [HLL.out]) hc1 HC2.out
  exact ⟨_, c1, rfl, Bytes.stays hr ((Below.refl _ _).drew), (fun a ha => by cases ha; exact hg2), (R1.setCell (p := ⟨g, k, none⟩) hg2 _).drew⟩
end Go.Proofs.Ytahphlcahaheiaa
