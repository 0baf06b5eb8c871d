/- The tape of numbers (sectimecase.Tape): New, Next, Int. -/
import Derived.Test.YtfkckokaclkjnaaReg
import Derived.Test.YtfkckokaclkjnaaWithin
namespace Go.Proofs.Ytfkckokaclkjnaa
open Go.RowKit

def tapeAt (l : List Int) (k : Nat) : Int := l.getD k 0
/-- Block b (from B on) is a tape at place k over the numbers l, which lie below B. -/
structure Tape (B : Nat) (w : World) (b : Nat) (l : List Int) (k : Nat) : Prop where
  ge : B ≤ b
  ex : ∃ A n c, w.cell? ⟨b, 0, none⟩ = some (.slice A n c) ∧ w.cell? ⟨b, 1, none⟩ = some (.int .i64 k) ∧ w.frozen? ⟨b, 1, none⟩ = false ∧ k ≤ n ∧ n ≤ 9223372036854775807 ∧ l.length = n ∧
    ∀ i, i < n → ∃ b' off, A = some ⟨b', off, none⟩ ∧ b' < B ∧ w.cell? ⟨b', off + i, none⟩ = some (.int .i64 (tapeAt l i))

theorem Tape.lt {B : Nat} {w : World} {b : Nat} {l : List Int} {k : Nat} (h : Tape B w b l k) : b < w.heap.size := by
  obtain ⟨_, _, _, _, h1, _⟩ := h
  exact World.block_lt_of_cell? w _ h1
theorem Tape.keep {B : Nat} {w w' : World} {b : Nat} {l : List Int} {k : Nat} (h : Tape B w b l k) (hb : ∀ j, j < B ∨ j = b → w'.heap[j]? = w.heap[j]?) : Tape B w' b l k := by
  obtain ⟨hge, A, n, c, h0, h1, h2, h3, h4, h5, h6⟩ := h
  have e := hb b (.inr rfl)
  refine ⟨hge, A, n, c, (World.cell?_of_block (a := ⟨b, 0, none⟩) e).trans h0, (World.cell?_of_block (a := ⟨b, 1, none⟩) e).trans h1, (World.frozen?_of_block (a := ⟨b, 1, none⟩) e).trans h2, h3, h4, h5, fun i hi => ?_⟩
  obtain ⟨b', off, ea, hlt, hc⟩ := h6 i hi
  exact ⟨b', off, ea, hlt, (World.cell?_of_block (a := ⟨b', off + i, none⟩) (hb b' (.inl hlt))).trans hc⟩
theorem Tape.stays {B : Nat} {w w' : World} {b : Nat} {l : List Int} {k : Nat} (h : Tape B w b l k) (hb : Below w.heap.size w w') : Tape B w' b l k :=
  h.keep fun j hj => hb.block j (by have := h.lt; have := h.ge; omega)
theorem Tape.moved {B : Nat} {w : World} {b : Nat} {l : List Int} {k : Nat} (h : Tape B w b l k) (k' : Nat) (hk : k' ≤ l.length) : Tape B (w.setCell ⟨b, 1, none⟩ (.int .i64 k')) b l k' := by
  obtain ⟨hge, A, n, c, h0, h1, h2, h3, h4, h5, h6⟩ := h
  refine ⟨hge, A, n, c, by rw [World.cell?_setCell_other _ _ _ _ (by simp)]; exact h0, World.cell?_setCell_same _ _ _ h1, ?_, by omega, h4, h5, fun i hi => ?_⟩
  · rw [World.frozen?_setCell]; exact h2
  · obtain ⟨b', off, ea, hlt, hc⟩ := h6 i hi
    exact ⟨b', off, ea, hlt, by rw [World.cell?_setCell_other _ _ _ _ (fun e => by simp only [Addr.mk.injEq] at e; omega)]; exact hc⟩

/-- Only block b may have turned. -/
abbrev Only (b : Nat) (w w' : World) : Prop := w.grownBy w' (some b)

set_option maxRecDepth 100000 in
set_option maxHeartbeats 1000000 in
theorem next_any (B b : Nat) (l : List Int) (k : Nat) (w : World) (h : Tape B w b l k) :
    Calls Try.prog 15 #[.pointer (some ⟨b, 0, none⟩)] w fun e w' => ∃ k', e = .returned (.int .i64 (tapeAt l k)) ∧ Tape B w' b l k' ∧ Only b w w' := by
  have HT := Lib.hid h
  obtain ⟨hge, A, n, c, h0, h1, h2, h3, h4, h5, h6⟩ := h
  have H5 := Lib.hid h5
  clear h5
  by_cases hk : k < n
  · obtain ⟨b', off, rfl, hlt, hc⟩ := h6 k hk
    clear h6
    have hne : ¬ b = b' := by omega
    have hne' : ¬ b' = b := by omega
    go_enter Try.func15, Try.ntmps15
    go_wp2
    refine region_still (by kernel_rfl) (by kernel_rfl) ?_
    repeat still_step
    refine wpStill_nil ?_
    go_wp2
    have hk0 : (0 : Int) ≤ (k : Int) := by omega
    have hk1 : (k : Int) < (n : Int) := by omega
    have hc' : ((w.setCell ⟨b, 1, none⟩ (.int .i64 ((k : Int) + 1)))).cell? ⟨b', off + k, none⟩ = some (.int .i64 (tapeAt l k)) := by
      rw [World.cell?_setCell_other _ _ _ _ (fun e => by simp only [Addr.mk.injEq] at e; omega)]; exact hc
    have hwk : IntKind.i64.wrap (k : Int) = (k : Int) := IntWalk.i64_in _ (by omega)
    refine region_still (by kernel_rfl) (by kernel_rfl) ?_
    repeat still_step
    refine wpStill_nil ?_
    clear hwk
    go_wp2
    go_ret
    refine ⟨k + 1, rfl, ?_, ?_⟩
    · have h8 := HT.out.moved (k + 1) (by rw [H5.out]; omega)
      rw [show (((k + 1 : Nat) : Int)) = (k : Int) + 1 by omega] at h8
      exact h8.keep fun j hj => rfl
    · exact ⟨rfl, rfl, rfl, by simp [World.setCell], fun j hj hjb => Below.heap_setCell _ _ _ _ (fun e => hjb (by rw [e]))⟩
  · obtain rfl : k = n := by omega
    clear h6
    have ht : tapeAt l k = 0 := by simp [tapeAt, List.getD, H5.out]
    go_enter Try.func15, Try.ntmps15
    go_wp2
    refine region_still (by kernel_rfl) (by kernel_rfl) ?_
    repeat still_step
    refine wpStill_nil ?_
    go_wp2
    go_ret
    refine ⟨k, by rw [ht]; rfl, HT.out.keep fun j hj => rfl, ⟨rfl, rfl, rfl, Nat.le_refl _, fun j hj hjb => rfl⟩⟩

theorem int_any (B b : Nat) (l : List Int) (k : Nat) (m : Int) (h1 : 1 ≤ m) (h2 : m ≤ 9223372036854775807) (w : World) (h : Tape B w b l k) :
    Calls Try.prog 5 #[.pointer (some ⟨b, 0, none⟩), .int .i64 m] w fun e w' => ∃ k', e = .returned (.int .i64 (tapeAt l k % m)) ∧ Tape B w' b l k' ∧ Only b w w' := by
  have C := Lib.hid (next_any B b l k w h)
  clear h
  go_enter Try.func5, Try.ntmps5
  go_wp2_with fail
  refine C.out.mono ?_
  rintro e w1 ⟨k', rfl, ht, ho⟩
  have HO := Lib.hid ho
  clear ho
  go_wp2_with fail
  refine (within_any _ _ h1 h2 _).mono ?_
  rintro e w2 ⟨rfl, rfl⟩
  go_wp2
  go_ret
  exact ⟨k', rfl, ht, HO.out⟩

theorem tape_new (A : Option Addr) (n c : Nat) (l : List Int) (w : World) (hv : Rd w 1 A n c (l.map (Value.int .i64))) (hn : n ≤ 9223372036854775807) :
    Calls Try.prog 4 #[.slice A n c] w fun e w' => ∃ b, e = .returned (.pointer (some ⟨b, 0, none⟩)) ∧ Tape w.heap.size w' b l 0 ∧ Below w.heap.size w w' := by
  have HV := Lib.hid hv
  clear hv
  go_enter Try.func4, Try.ntmps4
  go_wp2
  go_ret
  refine ⟨w.heap.size, rfl, ⟨Nat.le_refl _, A, n, c, by go_simp, by go_simp, by go_simp, Nat.zero_le _, hn, by have := HV.out.1; simpa using this, fun i hi => ?_⟩, by go_grown⟩
  have hl : i < l.length := by have := HV.out.1; simp at this; omega
  obtain ⟨b', off, e, hc⟩ := HV.out.2.2.2 i (.int .i64 (tapeAt l i)) (by simp [tapeAt, hl, List.getD])
  exact ⟨b', off, e, World.block_lt_of_cell? w _ hc, cell_stays ((Below.refl _ _).alloc (Nat.le_refl _) _) hc⟩
end Go.Proofs.Ytfkckokaclkjnaa
