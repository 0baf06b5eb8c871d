/- sectimeref16.Decode. -/
import Derived.Test.YtnpfndlmbaafaaaPkI0
import Derived.Test.YtnpfndlmbaafaaaStores
import Derived.Test.YtnpfndlmbaafaaaBlks
import Derived.Test.YtnpfndlmbaafaaaRefJoin
import Derived.Test.YtnpfndlmbaafaaaReg
import Derived.StillTactics
import Derived.Deep.RegionHeld3
import Derived.IntWalk
namespace Go.Proofs.Ytnpfndlmbaafaaa
open Go.RowKit

theorem dcU32_lt' (l : List UInt8) (i : Nat) (h : i + 4 ≤ l.length) : dcU l i 4 < 4294967296 := by
  rcases pb_be64_lt (l.drop i) 4 with h1 | h1
  · exact h1
  · rw [List.length_drop] at h1; omega
theorem signed_any (x : Nat) (h : x < 256) (w : World) : Calls Try.prog 60 #[.int .u8 x] w fun e w' => e = .returned (.int .i64 (sgnB x)) ∧ w = w' := by
  by_cases h1 : x ≤ 127
  · have h2 : ¬ (x : Int) > 127 := by omega
    have e1 : sgnB x = (x : Int) := by unfold sgnB; rw [if_pos h1]
    rw [e1]
    clear e1
    go_enter Try.func60, Try.ntmps60
    go_wp2
    go_ret
    exact ⟨rfl, rfl⟩
  · have h2 : (x : Int) > 127 := by omega
    have e1 : sgnB x = (x : Int) - 256 := by unfold sgnB; rw [if_neg h1]
    rw [e1]
    clear e1
    go_enter Try.func60, Try.ntmps60
    go_wp2
    go_ret
    exact ⟨rfl, rfl⟩
theorem and7u : ∀ x < 256, bits .and .u8 ((x : Nat) : Int) 7 = ((x % 8 : Nat) : Int) := by decide +kernel
theorem Bytes.part {w : World} {A : Option Addr} {n c : Nat} {l : List UInt8} (h : Bytes w A n c l) (lo k : Nat) (h1 : lo + k ≤ n) {d : Nat} (hd : c - lo = d) : Bytes w (cutA A c lo) k d ((l.drop lo).take k) := h.cutS lo (lo + k) (by omega) h1 (by omega) hd
theorem get_part {w : World} {A : Option Addr} {n c : Nat} {l : List UInt8} (h : Bytes w A n c l) (lo k : Nat) (h1 : lo + k ≤ n) {d : Nat} (hd : c - lo = d) :
    Calls Try.prog 51 #[.slice (cutA A c lo) k d] w fun e w' => e = .returned (.int .u64 (dcU l lo k)) ∧ w = w' := by
  refine (refGet_any _ _ _ _ _ (h.part lo k h1 hd)).mono ?_
  rintro e w' ⟨rfl, h2⟩
  refine ⟨?_, h2⟩
  unfold dcU
  rw [be64_take]
set_option maxRecDepth 100000 in
set_option maxHeartbeats 4000000 in
theorem refDec_short (A : Option Addr) (n c : Nat) (l : List UInt8) (w : World) (hv : Bytes w A n c l) (h1 : n < 48) :
    Calls Try.prog 39 #[.slice A n c] w fun e w' => e = .returned (.tuple #[.agg #[.int .i64 0, .int .i64 0, .int .i64 0, .int .i64 0, .int .i64 0, .int .i64 0, .int .u32 0, .int .u32 0, .int .u32 0, .int .u64 0, .int .u64 0, .int .u64 0, .int .u64 0], .slice none 0 0, .int .i64 1]) ∧ Below w.heap.size w w' := by
  have q1 := hv.le
  have q2 := hv.cap
  have h1i : (n : Int) < 48 := by omega
  clear hv
  go_enter Try.func39, Try.ntmps39
  go_upto_region 1 with fail
  obtain ⟨x1, h_, ex1, eh_⟩ : ∃ x1 h_, x1 = w.alloc (.cells #[.int .i64 0, .int .i64 0, .int .i64 0, .int .i64 0, .int .i64 0, .int .i64 0, .int .u32 0, .int .u32 0, .int .u32 0, .int .u64 0, .int .u64 0, .int .u64 0, .int .u64 0] 25) ∧ h_ = w.heap.size := ⟨_, _, rfl, rfl⟩
  rw [← ex1, ← eh_]
  have hbx : Below w.heap.size w x1 := by rw [ex1]; exact below_alloc1 _ _ 
  have g_H : w.heap.size ≤ h_ := by rw [eh_]; exact Nat.le_refl _
  have BH := Lib.hid (show Blk x1 h_ 25 #[.int .i64 0, .int .i64 0, .int .i64 0, .int .i64 0, .int .i64 0, .int .i64 0, .int .u32 0, .int .u32 0, .int .u32 0, .int .u64 0, .int .u64 0, .int .u64 0, .int .u64 0] by rw [ex1, eh_]; exact blk_new1_0 _ _ _ )
  have R2 := Lib.hid hbx
  have hz_x1 := R2.out.size
  clear hbx ex1 eh_
  have cH := BH.out.cell
  have zH := BH.out.frozen
  go_wp2
  clear zH cH
  generalize hwd : World.setCell _ ⟨h_, 12, none⟩ _ = wd
  have hwd2 : stores x1 h_ [.int .i64 0, .int .i64 0, .int .i64 0, .int .i64 0, .int .i64 0, .int .i64 0, .int .u32 0, .int .u32 0, .int .u32 0, .int .u64 0, .int .u64 0, .int .u64 0, .int .u64 0] 0 = wd := hwd
  have D1 : Blk wd h_ 25 #[.int .i64 0, .int .i64 0, .int .i64 0, .int .i64 0, .int .i64 0, .int .i64 0, .int .u32 0, .int .u32 0, .int .u32 0, .int .u64 0, .int .u64 0, .int .u64 0, .int .u64 0] := by rw [← hwd2]; exact BH.out.filled _ rfl
  have RD : Below w.heap.size w wd := by rw [← hwd2]; exact Below.stores (by omega) _ _ _ R2.out
  clear hwd hwd2
  have d1_0 : wd.cell? ⟨h_, 0, none⟩ = some (.int .i64 0) := D1.cell 0
  have d1_1 : wd.cell? ⟨h_, 1, none⟩ = some (.int .i64 0) := D1.cell 1
  have d1_2 : wd.cell? ⟨h_, 2, none⟩ = some (.int .i64 0) := D1.cell 2
  have d1_3 : wd.cell? ⟨h_, 3, none⟩ = some (.int .i64 0) := D1.cell 3
  have d1_4 : wd.cell? ⟨h_, 4, none⟩ = some (.int .i64 0) := D1.cell 4
  have d1_5 : wd.cell? ⟨h_, 5, none⟩ = some (.int .i64 0) := D1.cell 5
  have d1_6 : wd.cell? ⟨h_, 6, none⟩ = some (.int .u32 0) := D1.cell 6
  have d1_7 : wd.cell? ⟨h_, 7, none⟩ = some (.int .u32 0) := D1.cell 7
  have d1_8 : wd.cell? ⟨h_, 8, none⟩ = some (.int .u32 0) := D1.cell 8
  have d1_9 : wd.cell? ⟨h_, 9, none⟩ = some (.int .u64 0) := D1.cell 9
  have d1_10 : wd.cell? ⟨h_, 10, none⟩ = some (.int .u64 0) := D1.cell 10
  have d1_11 : wd.cell? ⟨h_, 11, none⟩ = some (.int .u64 0) := D1.cell 11
  have d1_12 : wd.cell? ⟨h_, 12, none⟩ = some (.int .u64 0) := D1.cell 12
  try go_wp2_with fail
  refine bodyPost_ret (v := .tuple #[.agg #[.int .i64 0, .int .i64 0, .int .i64 0, .int .i64 0, .int .i64 0, .int .i64 0, .int .u32 0, .int .u32 0, .int .u32 0, .int .u64 0, .int .u64 0, .int .u64 0, .int .u64 0], .slice none 0 0, .int .i64 1]) (by simp [results, Try.results39, go_sem, *]) rfl ⟨rfl, RD⟩
set_option maxRecDepth 100000 in
set_option maxHeartbeats 4000000 in
theorem refDec_long (A : Option Addr) (n c : Nat) (l : List UInt8) (w : World) (hv : Bytes w A n c l) (h1 : 1280 < n) :
    Calls Try.prog 39 #[.slice A n c] w fun e w' => e = .returned (.tuple #[.agg #[.int .i64 0, .int .i64 0, .int .i64 0, .int .i64 0, .int .i64 0, .int .i64 0, .int .u32 0, .int .u32 0, .int .u32 0, .int .u64 0, .int .u64 0, .int .u64 0, .int .u64 0], .slice none 0 0, .int .i64 2]) ∧ Below w.heap.size w w' := by
  have q1 := hv.le
  have q2 := hv.cap
  have h1i : ¬ (n : Int) < 48 := by omega
  have h2i : (n : Int) > 1280 := by omega
  clear hv
  go_enter Try.func39, Try.ntmps39
  go_upto_region 1 with fail
  obtain ⟨x1, h_, ex1, eh_⟩ : ∃ x1 h_, x1 = w.alloc (.cells #[.int .i64 0, .int .i64 0, .int .i64 0, .int .i64 0, .int .i64 0, .int .i64 0, .int .u32 0, .int .u32 0, .int .u32 0, .int .u64 0, .int .u64 0, .int .u64 0, .int .u64 0] 25) ∧ h_ = w.heap.size := ⟨_, _, rfl, rfl⟩
  rw [← ex1, ← eh_]
  have hbx : Below w.heap.size w x1 := by rw [ex1]; exact below_alloc1 _ _ 
  have g_H : w.heap.size ≤ h_ := by rw [eh_]; exact Nat.le_refl _
  have BH := Lib.hid (show Blk x1 h_ 25 #[.int .i64 0, .int .i64 0, .int .i64 0, .int .i64 0, .int .i64 0, .int .i64 0, .int .u32 0, .int .u32 0, .int .u32 0, .int .u64 0, .int .u64 0, .int .u64 0, .int .u64 0] by rw [ex1, eh_]; exact blk_new1_0 _ _ _ )
  have R2 := Lib.hid hbx
  have hz_x1 := R2.out.size
  clear hbx ex1 eh_
  have cH := BH.out.cell
  have zH := BH.out.frozen
  go_wp2
  clear zH cH
  generalize hwd : World.setCell _ ⟨h_, 12, none⟩ _ = wd
  have hwd2 : stores x1 h_ [.int .i64 0, .int .i64 0, .int .i64 0, .int .i64 0, .int .i64 0, .int .i64 0, .int .u32 0, .int .u32 0, .int .u32 0, .int .u64 0, .int .u64 0, .int .u64 0, .int .u64 0] 0 = wd := hwd
  have D1 : Blk wd h_ 25 #[.int .i64 0, .int .i64 0, .int .i64 0, .int .i64 0, .int .i64 0, .int .i64 0, .int .u32 0, .int .u32 0, .int .u32 0, .int .u64 0, .int .u64 0, .int .u64 0, .int .u64 0] := by rw [← hwd2]; exact BH.out.filled _ rfl
  have RD : Below w.heap.size w wd := by rw [← hwd2]; exact Below.stores (by omega) _ _ _ R2.out
  clear hwd hwd2
  have d1_0 : wd.cell? ⟨h_, 0, none⟩ = some (.int .i64 0) := D1.cell 0
  have d1_1 : wd.cell? ⟨h_, 1, none⟩ = some (.int .i64 0) := D1.cell 1
  have d1_2 : wd.cell? ⟨h_, 2, none⟩ = some (.int .i64 0) := D1.cell 2
  have d1_3 : wd.cell? ⟨h_, 3, none⟩ = some (.int .i64 0) := D1.cell 3
  have d1_4 : wd.cell? ⟨h_, 4, none⟩ = some (.int .i64 0) := D1.cell 4
  have d1_5 : wd.cell? ⟨h_, 5, none⟩ = some (.int .i64 0) := D1.cell 5
  have d1_6 : wd.cell? ⟨h_, 6, none⟩ = some (.int .u32 0) := D1.cell 6
  have d1_7 : wd.cell? ⟨h_, 7, none⟩ = some (.int .u32 0) := D1.cell 7
  have d1_8 : wd.cell? ⟨h_, 8, none⟩ = some (.int .u32 0) := D1.cell 8
  have d1_9 : wd.cell? ⟨h_, 9, none⟩ = some (.int .u64 0) := D1.cell 9
  have d1_10 : wd.cell? ⟨h_, 10, none⟩ = some (.int .u64 0) := D1.cell 10
  have d1_11 : wd.cell? ⟨h_, 11, none⟩ = some (.int .u64 0) := D1.cell 11
  have d1_12 : wd.cell? ⟨h_, 12, none⟩ = some (.int .u64 0) := D1.cell 12
  try go_wp2_with fail
  refine bodyPost_ret (v := .tuple #[.agg #[.int .i64 0, .int .i64 0, .int .i64 0, .int .i64 0, .int .i64 0, .int .i64 0, .int .u32 0, .int .u32 0, .int .u32 0, .int .u64 0, .int .u64 0, .int .u64 0, .int .u64 0], .slice none 0 0, .int .i64 2]) (by simp [results, Try.results39, go_sem, *]) rfl ⟨rfl, RD⟩
end Go.Proofs.Ytnpfndlmbaafaaa
