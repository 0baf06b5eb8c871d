import Derived.Lib.AppendZerosOnto
import Derived.Test.YtiemnacoebkalaaGreatTaV01
set_option linter.all false
set_option maxRecDepth 100000
set_option maxHeartbeats 4000000
namespace Go.Proofs.YtiemnacoebkalaaGreat
open Go Go.RowKit
theorem own_row {w : World} {B e n c : Nat} {A : Option Addr} {xs : List Value} (h : w.ownsRow B e 1 (.slice A n c) n xs) (hn : 0 < n) :
    ∃ g cur, A = some ⟨g, 0, none⟩ ∧ B <= g ∧ Blk w g e cur ∧ n <= c ∧ c <= maxLen ∧ cur.size = c ∧ cur.toList.take n = xs := by
 obtain ⟨hl, h2⟩ := h; rcases h2 with ⟨hv, h0⟩ | ⟨g, cap, cur, hv, hB, hg, hn', hc, hs, ht⟩
 · exfalso; rw [h0] at hn; exact Nat.lt_irrefl 0 hn
 · injection hv with h1 h2 h3
   subst h1 h3; exact ⟨g, cur, rfl, hB, hg, hn', hc, by simpa using hs, by simpa using ht⟩
theorem grow_own (A : Option Addr) (n c k B : Nat) (xs : List Value) (w : World) (h : w.ownsRow B 5 1 (.slice A n c) n xs) (hn : 0 < n) (hk : k <= 1000000) (hn2 : n <= 1000000) (hB : B <= w.heap.size) :
    Calls Tryz.prog 141 #[.slice A n c, .int .i64 k] w fun e w' => ∃ A' c', e = .returned (.slice A' n c') ∧ w'.ownsRow B 5 1 (.slice A' n c') n xs ∧ Below w.heap.size w w' := by
 have H := qq h; obtain ⟨g, cur, rfl, hg, hblk, hnc, hc, hs, ht⟩ := own_row h hn; unfold maxLen at hc; have kk : ¬ (k : Int) < 0 := by omega
 by_cases hr : k <= c - n
 · obtain ⟨d, hd⟩ : ∃ d : Nat, c - n - k = d := ⟨_, rfl⟩; have m1 : (c : Int) - (n : Int) = ((d + k : Nat) : Int) := by omega
   have m2 : ¬ ((k : Int) - ((d + k : Nat) : Int) > 0) := by omega
   have m3 : (k : Int) - ((c : Int) - (n : Int)) = -(d : Int) := by omega
   have m4 : ¬ (-(d : Int) > 0) := by omega
   clear h hblk hs ht
   go_enter Tryz.func141, Tryz.ntmps141
   go_wp2; go_ret; exact ⟨some ⟨g, 0, none⟩, c, rfl, H.out, Below.refl _ _⟩
 · obtain ⟨m, hm⟩ : ∃ m : Nat, k - (c - n) = m := ⟨_, rfl⟩; have hm0 : 0 < m := by omega
   obtain ⟨i0, hi, hz0, hz1, hz2⟩ := info_parts infoByteA; have hold : (Builtin.firstCells i0.size c (.slice (some ⟨g, 0, none⟩) c c)).run Tryz.prog w.drew = .ok cur.toList.toArray w.drew := by
    refine run_firstCells_some w.drew i0.size c ⟨g, 0, none⟩ c c cur.toList (by rw [hz1]; simp [hs]) ?_; intro j v hv; rw [add_off]; have := hblk.cell (0 + j); rw [show w.drew.cell? ⟨g, 0 + j, none⟩ = w.cell? ⟨g, 0 + j, none⟩ from rfl, this, Nat.zero_add]
    simpa using hv
   have HR := qq (Lib.run_append_grow_zeros (P := Tryz.prog) w 27 3 27 5 i0 (.int .u8 0) .i64 .i64 Tryz.underlying27 Tryz.underlying3 hi hz0 (some ⟨g, 0, none⟩) c c cur.toList hold m hm0 (by omega) (by omega) (by omega) (by rw [hz2]; omega) (by have := nextslicecap_le (need := c + m) (old := c) (by omega); rw [hz2]; omega)); have m3 : (k : Int) - ((c : Int) - (n : Int)) = (m : Int) := by omega
   have m4 : (m : Int) > 0 := by omega
   have m5 : (c : Int) <= (c : Int) := Int.le_refl _; have hge := grownCap_ge w (c + m) c 5; have hle := grownCap_le_maxLen w (c + m) c 5 (by unfold maxLen; omega); obtain ⟨C, hC⟩ : ∃ C, grownCap w (c + m) c 5 = C := ⟨_, rfl⟩; rw [hC] at HR hge hle; have m6 : (n : Int) <= (C : Int) := by omega
   have m7 : n <= C := by omega
   clear hold hC
   go_enter Tryz.func141, Tryz.ntmps141
   go_wp2_with (at_builtin; refine Lib.wpList_append_run w rfl _ _ _ _ rfl _ _ rfl rfl _ _ HR.out ?_)
   go_ret; refine ⟨_, _, rfl, ⟨by simp [<- ht]; omega, .inr ⟨w.heap.size, C, _, rfl, by omega, heap_alloc_new _ _, m7, hle, ?_, ?_⟩⟩, ((Below.refl _ _).drew).alloc (Nat.le_refl _) _⟩
   · simp only [Array.size_append, size_zeroCells]; simp; omega
   · rw [Nat.mul_one, Array.toList_append, Array.toList_append, List.take_append_of_le_length (by simp [hs]; omega)]
     simpa using ht
end Go.Proofs.YtiemnacoebkalaaGreat
