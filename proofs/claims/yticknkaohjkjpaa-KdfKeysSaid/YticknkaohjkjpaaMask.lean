/- kdf.masked and its reference: the key block. -/
import Derived.Test.YticknkaohjkjpaaHash
import Derived.Test.YticknkaohjkjpaaRefS
import Derived.Test.YticknkaohjkjpaaKdfL
import Derived.Test.YticknkaohjkjpaaWBytes
namespace Go.Proofs.Yticknkaohjkjpaa
open Go.RowKit

def rowB (L : List UInt8) : Array Value := (L.map byteV).toArray
theorem rowB_at (L : List UInt8) (i : Nat) (h : i < L.length) : (rowB L)[i]? = some (.int .u8 (byteAt L i)) := by
  simp only [rowB, List.getElem?_toArray]
  exact byteAt_map h
theorem rowB_set (L : List UInt8) (i : Nat) (x : UInt8) : (rowB L).setIfInBounds i (byteV x) = rowB (L.set i x) := by
  simp only [rowB, List.setIfInBounds_toArray, List.map_set]
/-- The first j elements of M, then those of P. -/
def mixL (M P : List UInt8) (j : Nat) : List UInt8 := M.take j ++ P.drop j
theorem mixL_zero (M P : List UInt8) : mixL M P 0 = P := by simp [mixL]
theorem mixL_len (M P : List UInt8) (j : Nat) (h : M.length = P.length) : (mixL M P j).length = P.length := by simp [mixL]; omega
theorem mixL_end (M P : List UInt8) (j : Nat) (h : M.length = P.length) (hj : j = P.length) : mixL M P j = M := by
  subst hj
  simp [mixL, ← h]
theorem mixL_set (M P Z : List UInt8) (j : Nat) (h : M.length = P.length) (hj : j < P.length) (x : UInt8) (hx : M[j]? = some x) : (mixL M P j ++ Z).set j x = mixL M P (j + 1) ++ Z := by
  have hjm : j < M.length := by omega
  have hx2 : M[j] = x := by simpa [hjm] using hx
  rw [List.set_append_left _ _ (by rw [mixL_len _ _ _ h]; exact hj)]
  congr 1
  unfold mixL
  rw [List.set_append_right _ _ (by simp; omega), List.take_succ_eq_append_getElem hjm, hx2, List.append_assoc]
  congr 1
  rw [List.length_take, Nat.min_eq_left (by omega), Nat.sub_self, List.drop_eq_getElem_cons hj]
  rfl
theorem mixL_byte (M P Z : List UInt8) (j : Nat) (h : M.length = P.length) (hj : j < P.length) : byteAt (mixL M P j ++ Z) j = byteAt P j := by
  unfold byteAt
  congr 1
  rw [List.getD, List.getD, List.getElem?_append_left (by rw [mixL_len _ _ _ h]; exact hj)]
  unfold mixL
  rw [List.getElem?_append_right (by simp; omega), List.getElem?_drop, List.length_take, Nat.min_eq_left (by omega)]
  congr 2; omega
theorem padK_len (k : List UInt8) (h : k.length ≤ 64) : (padK k).length = 64 := by simp [padK]; omega
theorem maskL_len (k : List UInt8) (m : UInt8) (h : k.length ≤ 64) : (maskL k m).length = 64 := by simp [maskL, padK_len k h]
theorem mask_bits : ∀ a < 256, bits .xor .u8 ((a : Nat) : Int) 54 = ((UInt8.ofNat a ^^^ 54).toNat : Int) ∧ bits .xor .u8 ((a : Nat) : Int) 92 = ((UInt8.ofNat a ^^^ 92).toNat : Int) := by decide +kernel
theorem mask_val (k : List UInt8) (m : Nat) (hm : m = 54 ∨ m = 92) (j : Nat) (hj : j < (padK k).length) : ∃ x, (maskL k (UInt8.ofNat m))[j]? = some x ∧ Value.int .u8 (bits .xor .u8 (byteAt (padK k) j) (m : Int)) = byteV x := by
  refine ⟨_, by unfold maskL; rw [List.getElem?_map, List.getElem?_eq_getElem hj]; rfl, ?_⟩
  have hb : byteAt (padK k) j = ((padK k)[j]).toNat := by simp [byteAt, hj, List.getD]
  have := mask_bits _ (byteAt_lt (padK k) j)
  rw [hb] at this ⊢
  have hx : UInt8.ofNat ((padK k)[j]).toNat = (padK k)[j] := by simp
  rw [hx] at this
  unfold byteV
  rcases hm with rfl | rfl
  · exact congrArg _ this.1
  · exact congrArg _ this.2

theorem made_z128 : madeCells #[Value.int .u8 0] 128 = z128.toArray := by
  apply Array.toList_inj.mp
  rw [toList_madeCells_one]
  rfl
theorem make_64 (w : World) : (Instr.makeSlice 22 (.int .i64 64) (.int .i64 128)).run Try.prog w =
    .ok (.slice (some ⟨w.heap.size, 0, none⟩) 64 128) (w.alloc (.cells z128.toArray 5)) := by
  obtain ⟨i0, hi, hz0, hz1, hz2⟩ := info_parts infoByteA
  have := run_make (P := Try.prog) w 22 5 i0 (.int .u8 0) Try.underlying22 hi hz0 .i64 .i64 64 128 (by omega) (by omega) (by rw [hz2]; omega) (by omega)
  rw [← made_z128]
  simpa [hz1, Value.cells] using this
theorem row_pad (k : List UInt8) (h : k.length ≤ 64) : (splice z128 0 (k.map byteV)).toArray = rowB (padK k ++ List.replicate 64 0) := by
  rw [rowA_copy, rowA, rowL, rowB, padK, List.append_assoc, List.replicate_append_replicate]
  congr 4; omega

set_option maxRecDepth 100000 in
set_option maxHeartbeats 4000000 in
theorem masked_any (m : Nat) (hm : m = 54 ∨ m = 92) (k : List UInt8) (A : Option Addr) (n c : Nat) (w : World) (hb : Bytes w A n c k) (hn : n ≤ 64) :
    Calls Try.prog 54 #[.slice A n c, .int .u8 m] w fun e w' => ∃ A' c', e = .returned (.slice A' 64 c') ∧ w'.ownsRow w.heap.size 5 1 (.slice A' 64 c') 64 ((maskL k (UInt8.ofNat m)).map byteV) ∧ Below w.heap.size w w' := by
  have n1 := hb.le
  have n2 := hb.cap
  have HL := Lib.hid hb.len
  have HB := Lib.hid hb
  have hmk := make_64 w
  clear hb
  go_enter Try.func54, Try.ntmps54
  go_upto_region 2 with fail
  clear hmk
  have hE := Lib.hid (Blk.new w 5 z128.toArray)
  go_wp2_with ((with_reducible show wpList _ _ _ _ _ _); refine wpList_copy_splice rfl _ _ _ _ rfl 5 Try.underlying22 (by kernel_rfl) _ _ 64 128 n c rfl rfl w.heap.size 0 z128 5 hE.out (k.map byteV) (HB.out.cpl 64 (by omega)) ((HB.out.stays (by go_grown)).src _) (by rw [List.length_map, HB.out.len, z128_len]; omega) (oneCell_bytes _) w.heap.size _ (Below.refl _ _) (Nat.le_refl _) ?_)
  intro w2 h2 hb2
  rw [row_pad k (by rw [HL.out]; omega)] at h2
  have H2 : Hid (Blk w2 w.heap.size 5 (rowB (mixL (maskL k (UInt8.ofNat m)) (padK k) 0 ++ List.replicate 64 0))) := by
    rw [mixL_zero]; exact h2
  have R2 : Below w.heap.size w w2 := (show Below w.heap.size w (w.alloc _) by go_grown).trans hb2
  have hpk := padK_len k (by rw [HL.out]; omega)
  have hmk := maskL_len k (UInt8.ofNat m) (by rw [HL.out]; omega)
  have HPK := Lib.hid hpk
  have HMK := Lib.hid hmk
  clear h2 hb2 hpk hmk hE
  rw [HL.out]
  go_wp2
  go_loopw [13] (fun i wr => ∃ j : Nat, j ≤ 64 ∧ i = .int .i64 j ∧ Hid (Blk wr w.heap.size 5 (rowB (mixL (maskL k (UInt8.ofNat m)) (padK k) j ++ List.replicate 64 0))) ∧ Below w.heap.size w wr) (fun i _ => 64 - (intOf i).toNat)
  case atStart => exact ⟨0, by omega, rfl, H2, R2⟩
  case round =>
    clear H2 R2
    obtain ⟨j, hj, rfl, HR, hbr⟩ := hrel
    have hsr := hbr.size
    by_cases hj64 : j < 64
    · have hji : (j : Int) < 64 := by omega
      have c0 := HR.out.cell j
      rw [rowB_at _ _ (by rw [List.length_append, mixL_len _ _ _ (by rw [HPK.out, HMK.out]), HPK.out]; omega), mixL_byte _ _ _ _ (by rw [HPK.out, HMK.out]) (by rw [HPK.out]; exact hj64)] at c0
      have f0 := HR.out.frozen j
      obtain ⟨x, hx1, hx2⟩ := mask_val k m hm j (by rw [HPK.out]; exact hj64)
      have HX := Lib.hid hx2
      clear hx2
      go_wp2
      go_roundw
      case rel =>
        refine ⟨j + 1, by omega, by go_num, ?_, by go_grown⟩
        have := HR.out.put j (byteV x)
        rw [rowB_set, mixL_set _ _ _ _ (by rw [HPK.out, HMK.out]) (by rw [HPK.out]; exact hj64) x hx1] at this
        rw [HX.out]
        exact this
      case measure => simp [intOf]; omega
    · obtain rfl : j = 64 := by omega
      go_wp2
      go_ret
      refine ⟨_, _, rfl, ⟨by simp [HMK.out], .inr ⟨w.heap.size, 128, _, rfl, Nat.le_refl _, HR.out, by omega, by decide, ?_, ?_⟩⟩, hbr⟩
      · rw [mixL_end _ _ _ (by rw [HPK.out, HMK.out]) HPK.out.symm]
        simp [rowB, HMK.out]
      · rw [mixL_end _ _ _ (by rw [HPK.out, HMK.out]) HPK.out.symm]
        unfold rowB
        rw [List.map_append, Nat.mul_one, List.toList_toArray, List.take_append_of_le_length (by rw [List.length_map, HMK.out]; omega), List.take_of_length_le (by rw [List.length_map, HMK.out]; omega)]
end Go.Proofs.Yticknkaohjkjpaa
