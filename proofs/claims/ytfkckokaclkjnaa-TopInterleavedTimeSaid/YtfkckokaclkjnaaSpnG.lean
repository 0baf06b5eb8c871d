/- Ticks, spans, what is known, a saved state: their errors, of the program and of the document. -/
import Derived.Test.YtfkckokaclkjnaaBlks
import Derived.Test.YtfkckokaclkjnaaStores
import Derived.Deep.DeepCutAuto
import Derived.IntWalk
namespace Go.Proofs.Ytfkckokaclkjnaa
open Go.RowKit

abbrev mxT : Int := 1152921504606846976
def tickOk (x : Int) : Prop := -1152921504606846976 ≤ x ∧ x ≤ 1152921504606846976
instance (x : Int) : Decidable (tickOk x) := by unfold tickOk; infer_instance
def spanOk (lo hi : Int) : Prop := tickOk lo ∧ tickOk hi ∧ lo ≤ hi
instance (lo hi : Int) : Decidable (spanOk lo hi) := by unfold spanOk; infer_instance
theorem bool_ite (p : Prop) [Decidable p] (b : Bool) (h : b = true ↔ p) : b = decide p := by
  by_cases hp : p
  · rw [decide_eq_true hp]; exact h.2 hp
  · rw [decide_eq_false hp]; cases b with
    | false => rfl
    | true => exact absurd (h.1 rfl) hp
set_option maxHeartbeats 1000000 in
theorem ticksV (x : Int) (w : World) : Calls Try.prog 16 #[.int .i64 x] w fun e w' => e = .returned (.bool (decide (tickOk x))) ∧ w = w' := by
  by_cases h1 : -1152921504606846976 ≤ x
  · by_cases h2 : x ≤ 1152921504606846976
    · have hd : decide (tickOk x) = true := decide_eq_true ⟨h1, h2⟩
      rw [hd]
      clear hd
      go_enter Try.func16, Try.ntmps16
      go_wp2
      go_ret
      exact ⟨rfl, rfl⟩
    · have hd : decide (tickOk x) = false := decide_eq_false (fun h => h2 h.2)
      rw [hd]
      clear hd
      have h3 : 1152921504606846976 < x := by omega
      clear h2
      have h4 : decide (x ≤ 1152921504606846976) = false := by simp; omega
      go_enter Try.func16, Try.ntmps16
      go_wp2
      go_ret
      exact ⟨rfl, rfl⟩
  · have hd : decide (tickOk x) = false := decide_eq_false (fun h => h1 h.1)
    rw [hd]
    clear hd
    have h3 : x < -1152921504606846976 := by omega
    clear h1
    go_enter Try.func16, Try.ntmps16
    go_wp2
    go_ret
    exact ⟨rfl, rfl⟩
set_option maxRecDepth 100000 in
set_option maxHeartbeats 4000000 in
theorem intervalV (lo hi : Int) (w : World) : Calls Try.prog 23 #[.agg #[.int .i64 lo, .int .i64 hi]] w fun e w' => e = .returned (.bool (decide (spanOk lo hi))) ∧ Below w.heap.size w w' := by
  by_cases h0 : tickOk lo
  case neg =>
    have hr : decide (spanOk lo hi) = false := decide_eq_false (fun h => h0 h.1)
    rw [hr]
    clear hr
    have d0 := decide_eq_false h0
    clear h0
    go_enter Try.func23, Try.ntmps23
    go_upto_region 1 with fail
    obtain ⟨x1, s_, ex1, es_⟩ : ∃ x1 s_, x1 = w.alloc (.cells #[.int .i64 lo, .int .i64 hi] 31) ∧ s_ = w.heap.size := ⟨_, _, rfl, rfl⟩
    rw [← ex1, ← es_]
    have hbx : Below w.heap.size w x1 := by rw [ex1]; exact below_alloc1 _ _ 
    have g_S : w.heap.size ≤ s_ := by rw [es_]; exact Nat.le_refl _
    have BS := Lib.hid (show Blk x1 s_ 31 #[.int .i64 lo, .int .i64 hi] by rw [ex1, es_]; exact blk_new1_0 _ _ _ )
    have R2 := Lib.hid hbx
    have hz_x1 := R2.out.size
    clear hbx ex1 es_
    have kS_0 : x1.cell? ⟨s_, 0, none⟩ = some (.int .i64 lo) := BS.out.cell 0
    have kS_1 : x1.cell? ⟨s_, 1, none⟩ = some (.int .i64 hi) := BS.out.cell 1
    go_wp2_with fail
    refine (ticksV lo _).mono ?_
    rintro e q_ ⟨rfl, rfl⟩
    rw [d0]
    go_wp2
    go_ret
    exact ⟨rfl, by first | exact R2.out | go_grown⟩
  have d0 := decide_eq_true h0
  by_cases h1 : tickOk hi
  case neg =>
    have hr : decide (spanOk lo hi) = false := decide_eq_false (fun h => h1 h.2.1)
    rw [hr]
    clear hr
    have d1 := decide_eq_false h1
    clear h1
    go_enter Try.func23, Try.ntmps23
    go_upto_region 1 with fail
    obtain ⟨x1, s_, ex1, es_⟩ : ∃ x1 s_, x1 = w.alloc (.cells #[.int .i64 lo, .int .i64 hi] 31) ∧ s_ = w.heap.size := ⟨_, _, rfl, rfl⟩
    rw [← ex1, ← es_]
    have hbx : Below w.heap.size w x1 := by rw [ex1]; exact below_alloc1 _ _ 
    have g_S : w.heap.size ≤ s_ := by rw [es_]; exact Nat.le_refl _
    have BS := Lib.hid (show Blk x1 s_ 31 #[.int .i64 lo, .int .i64 hi] by rw [ex1, es_]; exact blk_new1_0 _ _ _ )
    have R2 := Lib.hid hbx
    have hz_x1 := R2.out.size
    clear hbx ex1 es_
    have kS_0 : x1.cell? ⟨s_, 0, none⟩ = some (.int .i64 lo) := BS.out.cell 0
    have kS_1 : x1.cell? ⟨s_, 1, none⟩ = some (.int .i64 hi) := BS.out.cell 1
    go_wp2_with fail
    refine (ticksV lo _).mono ?_
    rintro e q_ ⟨rfl, rfl⟩
    rw [d0]
    go_wp2_with fail
    refine (ticksV hi _).mono ?_
    rintro e q_ ⟨rfl, rfl⟩
    rw [d1]
    go_wp2
    go_ret
    exact ⟨rfl, by first | exact R2.out | go_grown⟩
  have d1 := decide_eq_true h1
  by_cases h2 : lo ≤ hi
  case neg =>
    have hr : decide (spanOk lo hi) = false := decide_eq_false (fun h => h2 h.2.2)
    rw [hr]
    clear hr
    have d2 : decide (lo ≤ hi) = false := decide_eq_false h2
    clear h2
    go_enter Try.func23, Try.ntmps23
    go_upto_region 1 with fail
    obtain ⟨x1, s_, ex1, es_⟩ : ∃ x1 s_, x1 = w.alloc (.cells #[.int .i64 lo, .int .i64 hi] 31) ∧ s_ = w.heap.size := ⟨_, _, rfl, rfl⟩
    rw [← ex1, ← es_]
    have hbx : Below w.heap.size w x1 := by rw [ex1]; exact below_alloc1 _ _ 
    have g_S : w.heap.size ≤ s_ := by rw [es_]; exact Nat.le_refl _
    have BS := Lib.hid (show Blk x1 s_ 31 #[.int .i64 lo, .int .i64 hi] by rw [ex1, es_]; exact blk_new1_0 _ _ _ )
    have R2 := Lib.hid hbx
    have hz_x1 := R2.out.size
    clear hbx ex1 es_
    have kS_0 : x1.cell? ⟨s_, 0, none⟩ = some (.int .i64 lo) := BS.out.cell 0
    have kS_1 : x1.cell? ⟨s_, 1, none⟩ = some (.int .i64 hi) := BS.out.cell 1
    go_wp2_with fail
    refine (ticksV lo _).mono ?_
    rintro e q_ ⟨rfl, rfl⟩
    rw [d0]
    go_wp2_with fail
    refine (ticksV hi _).mono ?_
    rintro e q_ ⟨rfl, rfl⟩
    rw [d1]
    go_wp2
    go_ret
    exact ⟨rfl, by first | exact R2.out | go_grown⟩
  have d2 : decide (lo ≤ hi) = true := decide_eq_true h2
  have hr : decide (spanOk lo hi) = true := decide_eq_true ⟨h0, h1, h2⟩
  rw [hr]
  clear hr
  clear h0 h1
  go_enter Try.func23, Try.ntmps23
  go_upto_region 1 with fail
  obtain ⟨x1, s_, ex1, es_⟩ : ∃ x1 s_, x1 = w.alloc (.cells #[.int .i64 lo, .int .i64 hi] 31) ∧ s_ = w.heap.size := ⟨_, _, rfl, rfl⟩
  rw [← ex1, ← es_]
  have hbx : Below w.heap.size w x1 := by rw [ex1]; exact below_alloc1 _ _ 
  have g_S : w.heap.size ≤ s_ := by rw [es_]; exact Nat.le_refl _
  have BS := Lib.hid (show Blk x1 s_ 31 #[.int .i64 lo, .int .i64 hi] by rw [ex1, es_]; exact blk_new1_0 _ _ _ )
  have R2 := Lib.hid hbx
  have hz_x1 := R2.out.size
  clear hbx ex1 es_
  have kS_0 : x1.cell? ⟨s_, 0, none⟩ = some (.int .i64 lo) := BS.out.cell 0
  have kS_1 : x1.cell? ⟨s_, 1, none⟩ = some (.int .i64 hi) := BS.out.cell 1
  go_wp2_with fail
  refine (ticksV lo _).mono ?_
  rintro e q_ ⟨rfl, rfl⟩
  rw [d0]
  go_wp2_with fail
  refine (ticksV hi _).mono ?_
  rintro e q_ ⟨rfl, rfl⟩
  rw [d1]
  go_wp2
  go_ret
  exact ⟨rfl, by first | exact R2.out | go_grown⟩
end Go.Proofs.Ytfkckokaclkjnaa
