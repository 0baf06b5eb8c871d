/- Ticks, spans, what is known, a saved state: their errors, of the program and of the document. -/
import Derived.Test.YtbjmojajhkhekaaBlks
import Derived.Test.YtbjmojajhkhekaaStores
import Derived.Deep.DeepCutAuto
import Derived.IntWalk
namespace Go.Proofs.Ytbjmojajhkhekaa
open Go.RowKit

abbrev mxT : Int := 1152921504606846976
def tickOk (x : Int) : Prop := -1152921504606846976 ≤ x ∧ x ≤ 1152921504606846976
instance (x : Int) : Decidable (tickOk x) := by unfold tickOk; infer_instance
def spanOk (lo hi : Int) : Prop := tickOk lo ∧ tickOk hi ∧ lo ≤ hi
instance (lo hi : Int) : Decidable (spanOk lo hi) := by unfold spanOk; infer_instance
def cntOk (x : Int) : Prop := 0 ≤ x ∧ x ≤ 1152921504606846976
instance (x : Int) : Decidable (cntOk x) := by unfold cntOk; infer_instance
def knE (at_ lo hi pp le re : Int) : Int := if spanOk lo hi then (if tickOk at_ ∧ 0 ≤ pp ∧ pp ≤ 1000000 ∧ cntOk le ∧ cntOk re then 0 else 4) else 3
def svE (cn at_ lo hi pp le re : Int) : Int := if knE at_ lo hi pp le re = 0 then (if cntOk cn then 0 else 4) else knE at_ lo hi pp le re
theorem knE_cases (at_ lo hi pp le re : Int) : knE at_ lo hi pp le re = 0 ∨ knE at_ lo hi pp le re = 3 ∨ knE at_ lo hi pp le re = 4 := by
  unfold knE; split
  · split
    · exact .inl rfl
    · exact .inr (.inr rfl)
  · exact .inr (.inl rfl)
theorem svE_cases (cn at_ lo hi pp le re : Int) : svE cn at_ lo hi pp le re = 0 ∨ svE cn at_ lo hi pp le re = 3 ∨ svE cn at_ lo hi pp le re = 4 := by
  unfold svE; split
  · split
    · exact .inl rfl
    · exact .inr (.inr rfl)
  · exact knE_cases _ _ _ _ _ _
theorem bool_ite (p : Prop) [Decidable p] (b : Bool) (h : b = true ↔ p) : b = decide p := by
  by_cases hp : p
  · rw [decide_eq_true hp]; exact h.2 hp
  · rw [decide_eq_false hp]; cases b with
    | false => rfl
    | true => exact absurd (h.1 rfl) hp
set_option maxHeartbeats 1000000 in
theorem ticksV (x : Int) (w : World) : Calls Try.prog 72 #[.int .i64 x] w fun e w' => e = .returned (.bool (decide (tickOk x))) ∧ w = w' := by
  by_cases h1 : -1152921504606846976 ≤ x
  · by_cases h2 : x ≤ 1152921504606846976
    · have hd : decide (tickOk x) = true := decide_eq_true ⟨h1, h2⟩
      rw [hd]
      clear hd
      go_enter Try.func72, Try.ntmps72
      go_wp2
      go_ret
      exact ⟨rfl, rfl⟩
    · have hd : decide (tickOk x) = false := decide_eq_false (fun h => h2 h.2)
      rw [hd]
      clear hd
      have h3 : 1152921504606846976 < x := by omega
      clear h2
      have h4 : decide (x ≤ 1152921504606846976) = false := by simp; omega
      go_enter Try.func72, Try.ntmps72
      go_wp2
      go_ret
      exact ⟨rfl, rfl⟩
  · have hd : decide (tickOk x) = false := decide_eq_false (fun h => h1 h.1)
    rw [hd]
    clear hd
    have h3 : x < -1152921504606846976 := by omega
    clear h1
    go_enter Try.func72, Try.ntmps72
    go_wp2
    go_ret
    exact ⟨rfl, rfl⟩
set_option maxHeartbeats 1000000 in
theorem refTicksV (x : Int) (w : World) : Calls Try.prog 77 #[.int .i64 x] w fun e w' => e = .returned (.bool (decide (tickOk x))) ∧ w = w' := by
  by_cases h1 : -1152921504606846976 ≤ x
  · by_cases h2 : x ≤ 1152921504606846976
    · have hd : decide (tickOk x) = true := decide_eq_true ⟨h1, h2⟩
      rw [hd]
      clear hd
      go_enter Try.func77, Try.ntmps77
      go_wp2
      go_ret
      exact ⟨rfl, rfl⟩
    · have hd : decide (tickOk x) = false := decide_eq_false (fun h => h2 h.2)
      rw [hd]
      clear hd
      have h3 : 1152921504606846976 < x := by omega
      clear h2
      have h4 : decide (x ≤ 1152921504606846976) = false := by simp; omega
      go_enter Try.func77, Try.ntmps77
      go_wp2
      go_ret
      exact ⟨rfl, rfl⟩
  · have hd : decide (tickOk x) = false := decide_eq_false (fun h => h1 h.1)
    rw [hd]
    clear hd
    have h3 : x < -1152921504606846976 := by omega
    clear h1
    go_enter Try.func77, Try.ntmps77
    go_wp2
    go_ret
    exact ⟨rfl, rfl⟩
set_option maxHeartbeats 1000000 in
theorem countedV (x : Int) (w : World) : Calls Try.prog 89 #[.int .i64 x] w fun e w' => e = .returned (.bool (decide (cntOk x))) ∧ w = w' := by
  by_cases h1 : 0 ≤ x
  · by_cases h2 : x ≤ 1152921504606846976
    · have hd : decide (cntOk x) = true := decide_eq_true ⟨h1, h2⟩
      rw [hd]
      clear hd
      go_enter Try.func89, Try.ntmps89
      go_wp2
      go_ret
      exact ⟨rfl, rfl⟩
    · have hd : decide (cntOk x) = false := decide_eq_false (fun h => h2 h.2)
      rw [hd]
      clear hd
      have h3 : 1152921504606846976 < x := by omega
      clear h2
      have h4 : decide (x ≤ 1152921504606846976) = false := by simp; omega
      go_enter Try.func89, Try.ntmps89
      go_wp2
      go_ret
      exact ⟨rfl, rfl⟩
  · have hd : decide (cntOk x) = false := decide_eq_false (fun h => h1 h.1)
    rw [hd]
    clear hd
    have h3 : x < 0 := by omega
    clear h1
    go_enter Try.func89, Try.ntmps89
    go_wp2
    go_ret
    exact ⟨rfl, rfl⟩
set_option maxHeartbeats 1000000 in
theorem counterV (x : Int) (w : World) : Calls Try.prog 92 #[.int .i64 x] w fun e w' => e = .returned (.bool (decide (cntOk x))) ∧ w = w' := by
  by_cases h1 : 0 ≤ x
  · by_cases h2 : x ≤ 1152921504606846976
    · have hd : decide (cntOk x) = true := decide_eq_true ⟨h1, h2⟩
      rw [hd]
      clear hd
      go_enter Try.func92, Try.ntmps92
      go_wp2
      go_ret
      exact ⟨rfl, rfl⟩
    · have hd : decide (cntOk x) = false := decide_eq_false (fun h => h2 h.2)
      rw [hd]
      clear hd
      have h3 : 1152921504606846976 < x := by omega
      clear h2
      have h4 : decide (x ≤ 1152921504606846976) = false := by simp; omega
      go_enter Try.func92, Try.ntmps92
      go_wp2
      go_ret
      exact ⟨rfl, rfl⟩
  · have hd : decide (cntOk x) = false := decide_eq_false (fun h => h1 h.1)
    rw [hd]
    clear hd
    have h3 : x < 0 := by omega
    clear h1
    go_enter Try.func92, Try.ntmps92
    go_wp2
    go_ret
    exact ⟨rfl, rfl⟩
set_option maxRecDepth 100000 in
set_option maxHeartbeats 4000000 in
theorem intervalV (lo hi : Int) (w : World) : Calls Try.prog 71 #[.agg #[.int .i64 lo, .int .i64 hi]] w fun e w' => e = .returned (.bool (decide (spanOk lo hi))) ∧ Below w.heap.size w w' := by
  by_cases h0 : tickOk lo
  case neg =>
    have hr : decide (spanOk lo hi) = false := decide_eq_false (fun h => h0 h.1)
    rw [hr]
    clear hr
    have d0 := decide_eq_false h0
    clear h0
    go_enter Try.func71, Try.ntmps71
    go_upto_region 1 with fail
    obtain ⟨x1, s_, ex1, es_⟩ : ∃ x1 s_, x1 = w.alloc (.cells #[.int .i64 lo, .int .i64 hi] 37) ∧ s_ = w.heap.size := ⟨_, _, rfl, rfl⟩
    rw [← ex1, ← es_]
    have hbx : Below w.heap.size w x1 := by rw [ex1]; exact below_alloc1 _ _ 
    have g_S : w.heap.size ≤ s_ := by rw [es_]; exact Nat.le_refl _
    have BS := Lib.hid (show Blk x1 s_ 37 #[.int .i64 lo, .int .i64 hi] by rw [ex1, es_]; exact blk_new1_0 _ _ _ )
    have R2 := Lib.hid hbx
    have hz_x1 := R2.out.size
    clear hbx ex1 es_
    have kS_0 : x1.cell? ⟨s_, 0, none⟩ = some (.int .i64 lo) := BS.out.cell 0
    have kS_1 : x1.cell? ⟨s_, 1, none⟩ = some (.int .i64 hi) := BS.out.cell 1
    go_wp2_with fail
    refine (ticksV lo _).mono ?_
    rintro e q_ ⟨rfl, rfl⟩
    rw [d0]
    go_wp2
    go_ret
    exact ⟨rfl, by first | exact R2.out | go_grown⟩
  have d0 := decide_eq_true h0
  by_cases h1 : tickOk hi
  case neg =>
    have hr : decide (spanOk lo hi) = false := decide_eq_false (fun h => h1 h.2.1)
    rw [hr]
    clear hr
    have d1 := decide_eq_false h1
    clear h1
    go_enter Try.func71, Try.ntmps71
    go_upto_region 1 with fail
    obtain ⟨x1, s_, ex1, es_⟩ : ∃ x1 s_, x1 = w.alloc (.cells #[.int .i64 lo, .int .i64 hi] 37) ∧ s_ = w.heap.size := ⟨_, _, rfl, rfl⟩
    rw [← ex1, ← es_]
    have hbx : Below w.heap.size w x1 := by rw [ex1]; exact below_alloc1 _ _ 
    have g_S : w.heap.size ≤ s_ := by rw [es_]; exact Nat.le_refl _
    have BS := Lib.hid (show Blk x1 s_ 37 #[.int .i64 lo, .int .i64 hi] by rw [ex1, es_]; exact blk_new1_0 _ _ _ )
    have R2 := Lib.hid hbx
    have hz_x1 := R2.out.size
    clear hbx ex1 es_
    have kS_0 : x1.cell? ⟨s_, 0, none⟩ = some (.int .i64 lo) := BS.out.cell 0
    have kS_1 : x1.cell? ⟨s_, 1, none⟩ = some (.int .i64 hi) := BS.out.cell 1
    go_wp2_with fail
    refine (ticksV lo _).mono ?_
    rintro e q_ ⟨rfl, rfl⟩
    rw [d0]
    go_wp2_with fail
    refine (ticksV hi _).mono ?_
    rintro e q_ ⟨rfl, rfl⟩
    rw [d1]
    go_wp2
    go_ret
    exact ⟨rfl, by first | exact R2.out | go_grown⟩
  have d1 := decide_eq_true h1
  by_cases h2 : lo ≤ hi
  case neg =>
    have hr : decide (spanOk lo hi) = false := decide_eq_false (fun h => h2 h.2.2)
    rw [hr]
    clear hr
    have d2 : decide (lo ≤ hi) = false := decide_eq_false h2
    clear h2
    go_enter Try.func71, Try.ntmps71
    go_upto_region 1 with fail
    obtain ⟨x1, s_, ex1, es_⟩ : ∃ x1 s_, x1 = w.alloc (.cells #[.int .i64 lo, .int .i64 hi] 37) ∧ s_ = w.heap.size := ⟨_, _, rfl, rfl⟩
    rw [← ex1, ← es_]
    have hbx : Below w.heap.size w x1 := by rw [ex1]; exact below_alloc1 _ _ 
    have g_S : w.heap.size ≤ s_ := by rw [es_]; exact Nat.le_refl _
    have BS := Lib.hid (show Blk x1 s_ 37 #[.int .i64 lo, .int .i64 hi] by rw [ex1, es_]; exact blk_new1_0 _ _ _ )
    have R2 := Lib.hid hbx
    have hz_x1 := R2.out.size
    clear hbx ex1 es_
    have kS_0 : x1.cell? ⟨s_, 0, none⟩ = some (.int .i64 lo) := BS.out.cell 0
    have kS_1 : x1.cell? ⟨s_, 1, none⟩ = some (.int .i64 hi) := BS.out.cell 1
    go_wp2_with fail
    refine (ticksV lo _).mono ?_
    rintro e q_ ⟨rfl, rfl⟩
    rw [d0]
    go_wp2_with fail
    refine (ticksV hi _).mono ?_
    rintro e q_ ⟨rfl, rfl⟩
    rw [d1]
    go_wp2
    go_ret
    exact ⟨rfl, by first | exact R2.out | go_grown⟩
  have d2 : decide (lo ≤ hi) = true := decide_eq_true h2
  have hr : decide (spanOk lo hi) = true := decide_eq_true ⟨h0, h1, h2⟩
  rw [hr]
  clear hr
  clear h0 h1
  go_enter Try.func71, Try.ntmps71
  go_upto_region 1 with fail
  obtain ⟨x1, s_, ex1, es_⟩ : ∃ x1 s_, x1 = w.alloc (.cells #[.int .i64 lo, .int .i64 hi] 37) ∧ s_ = w.heap.size := ⟨_, _, rfl, rfl⟩
  rw [← ex1, ← es_]
  have hbx : Below w.heap.size w x1 := by rw [ex1]; exact below_alloc1 _ _ 
  have g_S : w.heap.size ≤ s_ := by rw [es_]; exact Nat.le_refl _
  have BS := Lib.hid (show Blk x1 s_ 37 #[.int .i64 lo, .int .i64 hi] by rw [ex1, es_]; exact blk_new1_0 _ _ _ )
  have R2 := Lib.hid hbx
  have hz_x1 := R2.out.size
  clear hbx ex1 es_
  have kS_0 : x1.cell? ⟨s_, 0, none⟩ = some (.int .i64 lo) := BS.out.cell 0
  have kS_1 : x1.cell? ⟨s_, 1, none⟩ = some (.int .i64 hi) := BS.out.cell 1
  go_wp2_with fail
  refine (ticksV lo _).mono ?_
  rintro e q_ ⟨rfl, rfl⟩
  rw [d0]
  go_wp2_with fail
  refine (ticksV hi _).mono ?_
  rintro e q_ ⟨rfl, rfl⟩
  rw [d1]
  go_wp2
  go_ret
  exact ⟨rfl, by first | exact R2.out | go_grown⟩
set_option maxRecDepth 100000 in
set_option maxHeartbeats 4000000 in
theorem refSpanV (lo hi : Int) (w : World) : Calls Try.prog 76 #[.agg #[.int .i64 lo, .int .i64 hi]] w fun e w' => e = .returned (.bool (decide (spanOk lo hi))) ∧ Below w.heap.size w w' := by
  by_cases h0 : tickOk lo
  case neg =>
    have hr : decide (spanOk lo hi) = false := decide_eq_false (fun h => h0 h.1)
    rw [hr]
    clear hr
    have d0 := decide_eq_false h0
    clear h0
    go_enter Try.func76, Try.ntmps76
    go_upto_region 1 with fail
    obtain ⟨x1, s_, ex1, es_⟩ : ∃ x1 s_, x1 = w.alloc (.cells #[.int .i64 lo, .int .i64 hi] 37) ∧ s_ = w.heap.size := ⟨_, _, rfl, rfl⟩
    rw [← ex1, ← es_]
    have hbx : Below w.heap.size w x1 := by rw [ex1]; exact below_alloc1 _ _ 
    have g_S : w.heap.size ≤ s_ := by rw [es_]; exact Nat.le_refl _
    have BS := Lib.hid (show Blk x1 s_ 37 #[.int .i64 lo, .int .i64 hi] by rw [ex1, es_]; exact blk_new1_0 _ _ _ )
    have R2 := Lib.hid hbx
    have hz_x1 := R2.out.size
    clear hbx ex1 es_
    have kS_0 : x1.cell? ⟨s_, 0, none⟩ = some (.int .i64 lo) := BS.out.cell 0
    have kS_1 : x1.cell? ⟨s_, 1, none⟩ = some (.int .i64 hi) := BS.out.cell 1
    go_wp2_with fail
    refine (refTicksV lo _).mono ?_
    rintro e q_ ⟨rfl, rfl⟩
    rw [d0]
    go_wp2
    go_ret
    exact ⟨rfl, by first | exact R2.out | go_grown⟩
  have d0 := decide_eq_true h0
  by_cases h1 : tickOk hi
  case neg =>
    have hr : decide (spanOk lo hi) = false := decide_eq_false (fun h => h1 h.2.1)
    rw [hr]
    clear hr
    have d1 := decide_eq_false h1
    clear h1
    go_enter Try.func76, Try.ntmps76
    go_upto_region 1 with fail
    obtain ⟨x1, s_, ex1, es_⟩ : ∃ x1 s_, x1 = w.alloc (.cells #[.int .i64 lo, .int .i64 hi] 37) ∧ s_ = w.heap.size := ⟨_, _, rfl, rfl⟩
    rw [← ex1, ← es_]
    have hbx : Below w.heap.size w x1 := by rw [ex1]; exact below_alloc1 _ _ 
    have g_S : w.heap.size ≤ s_ := by rw [es_]; exact Nat.le_refl _
    have BS := Lib.hid (show Blk x1 s_ 37 #[.int .i64 lo, .int .i64 hi] by rw [ex1, es_]; exact blk_new1_0 _ _ _ )
    have R2 := Lib.hid hbx
    have hz_x1 := R2.out.size
    clear hbx ex1 es_
    have kS_0 : x1.cell? ⟨s_, 0, none⟩ = some (.int .i64 lo) := BS.out.cell 0
    have kS_1 : x1.cell? ⟨s_, 1, none⟩ = some (.int .i64 hi) := BS.out.cell 1
    go_wp2_with fail
    refine (refTicksV lo _).mono ?_
    rintro e q_ ⟨rfl, rfl⟩
    rw [d0]
    go_wp2_with fail
    refine (refTicksV hi _).mono ?_
    rintro e q_ ⟨rfl, rfl⟩
    rw [d1]
    go_wp2
    go_ret
    exact ⟨rfl, by first | exact R2.out | go_grown⟩
  have d1 := decide_eq_true h1
  by_cases h2 : lo ≤ hi
  case neg =>
    have hr : decide (spanOk lo hi) = false := decide_eq_false (fun h => h2 h.2.2)
    rw [hr]
    clear hr
    have d2 : decide (lo ≤ hi) = false := decide_eq_false h2
    clear h2
    go_enter Try.func76, Try.ntmps76
    go_upto_region 1 with fail
    obtain ⟨x1, s_, ex1, es_⟩ : ∃ x1 s_, x1 = w.alloc (.cells #[.int .i64 lo, .int .i64 hi] 37) ∧ s_ = w.heap.size := ⟨_, _, rfl, rfl⟩
    rw [← ex1, ← es_]
    have hbx : Below w.heap.size w x1 := by rw [ex1]; exact below_alloc1 _ _ 
    have g_S : w.heap.size ≤ s_ := by rw [es_]; exact Nat.le_refl _
    have BS := Lib.hid (show Blk x1 s_ 37 #[.int .i64 lo, .int .i64 hi] by rw [ex1, es_]; exact blk_new1_0 _ _ _ )
    have R2 := Lib.hid hbx
    have hz_x1 := R2.out.size
    clear hbx ex1 es_
    have kS_0 : x1.cell? ⟨s_, 0, none⟩ = some (.int .i64 lo) := BS.out.cell 0
    have kS_1 : x1.cell? ⟨s_, 1, none⟩ = some (.int .i64 hi) := BS.out.cell 1
    go_wp2_with fail
    refine (refTicksV lo _).mono ?_
    rintro e q_ ⟨rfl, rfl⟩
    rw [d0]
    go_wp2_with fail
    refine (refTicksV hi _).mono ?_
    rintro e q_ ⟨rfl, rfl⟩
    rw [d1]
    go_wp2
    go_ret
    exact ⟨rfl, by first | exact R2.out | go_grown⟩
  have d2 : decide (lo ≤ hi) = true := decide_eq_true h2
  have hr : decide (spanOk lo hi) = true := decide_eq_true ⟨h0, h1, h2⟩
  rw [hr]
  clear hr
  clear h0 h1
  go_enter Try.func76, Try.ntmps76
  go_upto_region 1 with fail
  obtain ⟨x1, s_, ex1, es_⟩ : ∃ x1 s_, x1 = w.alloc (.cells #[.int .i64 lo, .int .i64 hi] 37) ∧ s_ = w.heap.size := ⟨_, _, rfl, rfl⟩
  rw [← ex1, ← es_]
  have hbx : Below w.heap.size w x1 := by rw [ex1]; exact below_alloc1 _ _ 
  have g_S : w.heap.size ≤ s_ := by rw [es_]; exact Nat.le_refl _
  have BS := Lib.hid (show Blk x1 s_ 37 #[.int .i64 lo, .int .i64 hi] by rw [ex1, es_]; exact blk_new1_0 _ _ _ )
  have R2 := Lib.hid hbx
  have hz_x1 := R2.out.size
  clear hbx ex1 es_
  have kS_0 : x1.cell? ⟨s_, 0, none⟩ = some (.int .i64 lo) := BS.out.cell 0
  have kS_1 : x1.cell? ⟨s_, 1, none⟩ = some (.int .i64 hi) := BS.out.cell 1
  go_wp2_with fail
  refine (refTicksV lo _).mono ?_
  rintro e q_ ⟨rfl, rfl⟩
  rw [d0]
  go_wp2_with fail
  refine (refTicksV hi _).mono ?_
  rintro e q_ ⟨rfl, rfl⟩
  rw [d1]
  go_wp2
  go_ret
  exact ⟨rfl, by first | exact R2.out | go_grown⟩
set_option maxRecDepth 100000 in
set_option maxHeartbeats 4000000 in
theorem certV (at_ lo hi pp le re : Int) (w : World) : Calls Try.prog 70 #[.agg #[.int .i64 at_, .int .i64 lo, .int .i64 hi, .int .i64 pp, .int .i64 le, .int .i64 re]] w fun e w' => e = .returned (.int .i64 (knE at_ lo hi pp le re)) ∧ Below w.heap.size w w' := by
  by_cases h0 : spanOk lo hi
  case neg =>
    have hr : knE at_ lo hi pp le re = 3 := if_neg h0
    rw [hr]
    clear hr
    have d0 := decide_eq_false h0
    clear h0
    go_enter Try.func70, Try.ntmps70
    go_upto_region 1 with fail
    obtain ⟨x1, s_, ex1, es_⟩ : ∃ x1 s_, x1 = w.alloc (.cells #[.int .i64 at_, .int .i64 lo, .int .i64 hi, .int .i64 pp, .int .i64 le, .int .i64 re] 39) ∧ s_ = w.heap.size := ⟨_, _, rfl, rfl⟩
    rw [← ex1, ← es_]
    have hbx : Below w.heap.size w x1 := by rw [ex1]; exact below_alloc1 _ _ 
    have g_S : w.heap.size ≤ s_ := by rw [es_]; exact Nat.le_refl _
    have BS := Lib.hid (show Blk x1 s_ 39 #[.int .i64 at_, .int .i64 lo, .int .i64 hi, .int .i64 pp, .int .i64 le, .int .i64 re] by rw [ex1, es_]; exact blk_new1_0 _ _ _ )
    have R2 := Lib.hid hbx
    have hz_x1 := R2.out.size
    clear hbx ex1 es_
    have kS_0 : x1.cell? ⟨s_, 0, none⟩ = some (.int .i64 at_) := BS.out.cell 0
    have kS_1 : x1.cell? ⟨s_, 1, none⟩ = some (.int .i64 lo) := BS.out.cell 1
    have kS_2 : x1.cell? ⟨s_, 2, none⟩ = some (.int .i64 hi) := BS.out.cell 2
    have kS_3 : x1.cell? ⟨s_, 3, none⟩ = some (.int .i64 pp) := BS.out.cell 3
    have kS_4 : x1.cell? ⟨s_, 4, none⟩ = some (.int .i64 le) := BS.out.cell 4
    have kS_5 : x1.cell? ⟨s_, 5, none⟩ = some (.int .i64 re) := BS.out.cell 5
    go_wp2_with fail
    refine (intervalV lo hi _).mono ?_
    rintro e y3 ⟨rfl, hb⟩
    clear kS_0 kS_1 kS_2 kS_3 kS_4 kS_5
    have hbx : Below x1.heap.size x1 y3 := below_via (by go_grown) hb (by first | (simp; done) | (simp; omega))
    have BS := Lib.hid (BS.out.stays hbx)
    have R4 := Lib.hid (R2.out.trans (hbx.mono hz_x1))
    have hz_y3 := R4.out.size
    clear hb hbx  R2 hz_x1
    have kS_0 : y3.cell? ⟨s_, 0, none⟩ = some (.int .i64 at_) := BS.out.cell 0
    have kS_1 : y3.cell? ⟨s_, 1, none⟩ = some (.int .i64 lo) := BS.out.cell 1
    have kS_2 : y3.cell? ⟨s_, 2, none⟩ = some (.int .i64 hi) := BS.out.cell 2
    have kS_3 : y3.cell? ⟨s_, 3, none⟩ = some (.int .i64 pp) := BS.out.cell 3
    have kS_4 : y3.cell? ⟨s_, 4, none⟩ = some (.int .i64 le) := BS.out.cell 4
    have kS_5 : y3.cell? ⟨s_, 5, none⟩ = some (.int .i64 re) := BS.out.cell 5
    rw [d0]
    go_wp2
    go_ret
    exact ⟨rfl, by first | exact R4.out | go_grown⟩
  have d0 := decide_eq_true h0
  by_cases h1 : tickOk at_
  case neg =>
    have hr : knE at_ lo hi pp le re = 4 := (if_pos h0).trans (if_neg (fun h => h1 h.1))
    rw [hr]
    clear hr
    have d1 := decide_eq_false h1
    clear h1
    go_enter Try.func70, Try.ntmps70
    go_upto_region 1 with fail
    obtain ⟨x1, s_, ex1, es_⟩ : ∃ x1 s_, x1 = w.alloc (.cells #[.int .i64 at_, .int .i64 lo, .int .i64 hi, .int .i64 pp, .int .i64 le, .int .i64 re] 39) ∧ s_ = w.heap.size := ⟨_, _, rfl, rfl⟩
    rw [← ex1, ← es_]
    have hbx : Below w.heap.size w x1 := by rw [ex1]; exact below_alloc1 _ _ 
    have g_S : w.heap.size ≤ s_ := by rw [es_]; exact Nat.le_refl _
    have BS := Lib.hid (show Blk x1 s_ 39 #[.int .i64 at_, .int .i64 lo, .int .i64 hi, .int .i64 pp, .int .i64 le, .int .i64 re] by rw [ex1, es_]; exact blk_new1_0 _ _ _ )
    have R2 := Lib.hid hbx
    have hz_x1 := R2.out.size
    clear hbx ex1 es_
    have kS_0 : x1.cell? ⟨s_, 0, none⟩ = some (.int .i64 at_) := BS.out.cell 0
    have kS_1 : x1.cell? ⟨s_, 1, none⟩ = some (.int .i64 lo) := BS.out.cell 1
    have kS_2 : x1.cell? ⟨s_, 2, none⟩ = some (.int .i64 hi) := BS.out.cell 2
    have kS_3 : x1.cell? ⟨s_, 3, none⟩ = some (.int .i64 pp) := BS.out.cell 3
    have kS_4 : x1.cell? ⟨s_, 4, none⟩ = some (.int .i64 le) := BS.out.cell 4
    have kS_5 : x1.cell? ⟨s_, 5, none⟩ = some (.int .i64 re) := BS.out.cell 5
    go_wp2_with fail
    refine (intervalV lo hi _).mono ?_
    rintro e y3 ⟨rfl, hb⟩
    clear kS_0 kS_1 kS_2 kS_3 kS_4 kS_5
    have hbx : Below x1.heap.size x1 y3 := below_via (by go_grown) hb (by first | (simp; done) | (simp; omega))
    have BS := Lib.hid (BS.out.stays hbx)
    have R4 := Lib.hid (R2.out.trans (hbx.mono hz_x1))
    have hz_y3 := R4.out.size
    clear hb hbx  R2 hz_x1
    have kS_0 : y3.cell? ⟨s_, 0, none⟩ = some (.int .i64 at_) := BS.out.cell 0
    have kS_1 : y3.cell? ⟨s_, 1, none⟩ = some (.int .i64 lo) := BS.out.cell 1
    have kS_2 : y3.cell? ⟨s_, 2, none⟩ = some (.int .i64 hi) := BS.out.cell 2
    have kS_3 : y3.cell? ⟨s_, 3, none⟩ = some (.int .i64 pp) := BS.out.cell 3
    have kS_4 : y3.cell? ⟨s_, 4, none⟩ = some (.int .i64 le) := BS.out.cell 4
    have kS_5 : y3.cell? ⟨s_, 5, none⟩ = some (.int .i64 re) := BS.out.cell 5
    rw [d0]
    go_wp2_with fail
    refine (ticksV at_ _).mono ?_
    rintro e q_ ⟨rfl, rfl⟩
    rw [d1]
    go_wp2
    go_ret
    exact ⟨rfl, by first | exact R4.out | go_grown⟩
  have d1 := decide_eq_true h1
  by_cases h2 : 0 ≤ pp
  case neg =>
    have hr : knE at_ lo hi pp le re = 4 := (if_pos h0).trans (if_neg (fun h => h2 h.2.1))
    rw [hr]
    clear hr
    have c2 : pp < 0 := by omega
    clear h2
    go_enter Try.func70, Try.ntmps70
    go_upto_region 1 with fail
    obtain ⟨x1, s_, ex1, es_⟩ : ∃ x1 s_, x1 = w.alloc (.cells #[.int .i64 at_, .int .i64 lo, .int .i64 hi, .int .i64 pp, .int .i64 le, .int .i64 re] 39) ∧ s_ = w.heap.size := ⟨_, _, rfl, rfl⟩
    rw [← ex1, ← es_]
    have hbx : Below w.heap.size w x1 := by rw [ex1]; exact below_alloc1 _ _ 
    have g_S : w.heap.size ≤ s_ := by rw [es_]; exact Nat.le_refl _
    have BS := Lib.hid (show Blk x1 s_ 39 #[.int .i64 at_, .int .i64 lo, .int .i64 hi, .int .i64 pp, .int .i64 le, .int .i64 re] by rw [ex1, es_]; exact blk_new1_0 _ _ _ )
    have R2 := Lib.hid hbx
    have hz_x1 := R2.out.size
    clear hbx ex1 es_
    have kS_0 : x1.cell? ⟨s_, 0, none⟩ = some (.int .i64 at_) := BS.out.cell 0
    have kS_1 : x1.cell? ⟨s_, 1, none⟩ = some (.int .i64 lo) := BS.out.cell 1
    have kS_2 : x1.cell? ⟨s_, 2, none⟩ = some (.int .i64 hi) := BS.out.cell 2
    have kS_3 : x1.cell? ⟨s_, 3, none⟩ = some (.int .i64 pp) := BS.out.cell 3
    have kS_4 : x1.cell? ⟨s_, 4, none⟩ = some (.int .i64 le) := BS.out.cell 4
    have kS_5 : x1.cell? ⟨s_, 5, none⟩ = some (.int .i64 re) := BS.out.cell 5
    go_wp2_with fail
    refine (intervalV lo hi _).mono ?_
    rintro e y3 ⟨rfl, hb⟩
    clear kS_0 kS_1 kS_2 kS_3 kS_4 kS_5
    have hbx : Below x1.heap.size x1 y3 := below_via (by go_grown) hb (by first | (simp; done) | (simp; omega))
    have BS := Lib.hid (BS.out.stays hbx)
    have R4 := Lib.hid (R2.out.trans (hbx.mono hz_x1))
    have hz_y3 := R4.out.size
    clear hb hbx  R2 hz_x1
    have kS_0 : y3.cell? ⟨s_, 0, none⟩ = some (.int .i64 at_) := BS.out.cell 0
    have kS_1 : y3.cell? ⟨s_, 1, none⟩ = some (.int .i64 lo) := BS.out.cell 1
    have kS_2 : y3.cell? ⟨s_, 2, none⟩ = some (.int .i64 hi) := BS.out.cell 2
    have kS_3 : y3.cell? ⟨s_, 3, none⟩ = some (.int .i64 pp) := BS.out.cell 3
    have kS_4 : y3.cell? ⟨s_, 4, none⟩ = some (.int .i64 le) := BS.out.cell 4
    have kS_5 : y3.cell? ⟨s_, 5, none⟩ = some (.int .i64 re) := BS.out.cell 5
    rw [d0]
    go_wp2_with fail
    refine (ticksV at_ _).mono ?_
    rintro e q_ ⟨rfl, rfl⟩
    rw [d1]
    go_wp2
    go_ret
    exact ⟨rfl, by first | exact R4.out | go_grown⟩
  by_cases h3 : pp ≤ 1000000
  case neg =>
    have hr : knE at_ lo hi pp le re = 4 := (if_pos h0).trans (if_neg (fun h => h3 h.2.2.1))
    rw [hr]
    clear hr
    have c3 : 1000000 < pp := by omega
    clear h3
    go_enter Try.func70, Try.ntmps70
    go_upto_region 1 with fail
    obtain ⟨x1, s_, ex1, es_⟩ : ∃ x1 s_, x1 = w.alloc (.cells #[.int .i64 at_, .int .i64 lo, .int .i64 hi, .int .i64 pp, .int .i64 le, .int .i64 re] 39) ∧ s_ = w.heap.size := ⟨_, _, rfl, rfl⟩
    rw [← ex1, ← es_]
    have hbx : Below w.heap.size w x1 := by rw [ex1]; exact below_alloc1 _ _ 
    have g_S : w.heap.size ≤ s_ := by rw [es_]; exact Nat.le_refl _
    have BS := Lib.hid (show Blk x1 s_ 39 #[.int .i64 at_, .int .i64 lo, .int .i64 hi, .int .i64 pp, .int .i64 le, .int .i64 re] by rw [ex1, es_]; exact blk_new1_0 _ _ _ )
    have R2 := Lib.hid hbx
    have hz_x1 := R2.out.size
    clear hbx ex1 es_
    have kS_0 : x1.cell? ⟨s_, 0, none⟩ = some (.int .i64 at_) := BS.out.cell 0
    have kS_1 : x1.cell? ⟨s_, 1, none⟩ = some (.int .i64 lo) := BS.out.cell 1
    have kS_2 : x1.cell? ⟨s_, 2, none⟩ = some (.int .i64 hi) := BS.out.cell 2
    have kS_3 : x1.cell? ⟨s_, 3, none⟩ = some (.int .i64 pp) := BS.out.cell 3
    have kS_4 : x1.cell? ⟨s_, 4, none⟩ = some (.int .i64 le) := BS.out.cell 4
    have kS_5 : x1.cell? ⟨s_, 5, none⟩ = some (.int .i64 re) := BS.out.cell 5
    go_wp2_with fail
    refine (intervalV lo hi _).mono ?_
    rintro e y3 ⟨rfl, hb⟩
    clear kS_0 kS_1 kS_2 kS_3 kS_4 kS_5
    have hbx : Below x1.heap.size x1 y3 := below_via (by go_grown) hb (by first | (simp; done) | (simp; omega))
    have BS := Lib.hid (BS.out.stays hbx)
    have R4 := Lib.hid (R2.out.trans (hbx.mono hz_x1))
    have hz_y3 := R4.out.size
    clear hb hbx  R2 hz_x1
    have kS_0 : y3.cell? ⟨s_, 0, none⟩ = some (.int .i64 at_) := BS.out.cell 0
    have kS_1 : y3.cell? ⟨s_, 1, none⟩ = some (.int .i64 lo) := BS.out.cell 1
    have kS_2 : y3.cell? ⟨s_, 2, none⟩ = some (.int .i64 hi) := BS.out.cell 2
    have kS_3 : y3.cell? ⟨s_, 3, none⟩ = some (.int .i64 pp) := BS.out.cell 3
    have kS_4 : y3.cell? ⟨s_, 4, none⟩ = some (.int .i64 le) := BS.out.cell 4
    have kS_5 : y3.cell? ⟨s_, 5, none⟩ = some (.int .i64 re) := BS.out.cell 5
    rw [d0]
    go_wp2_with fail
    refine (ticksV at_ _).mono ?_
    rintro e q_ ⟨rfl, rfl⟩
    rw [d1]
    go_wp2
    go_ret
    exact ⟨rfl, by first | exact R4.out | go_grown⟩
  by_cases h4 : cntOk le
  case neg =>
    have hr : knE at_ lo hi pp le re = 4 := (if_pos h0).trans (if_neg (fun h => h4 h.2.2.2.1))
    rw [hr]
    clear hr
    have d4 := decide_eq_false h4
    clear h4
    go_enter Try.func70, Try.ntmps70
    go_upto_region 1 with fail
    obtain ⟨x1, s_, ex1, es_⟩ : ∃ x1 s_, x1 = w.alloc (.cells #[.int .i64 at_, .int .i64 lo, .int .i64 hi, .int .i64 pp, .int .i64 le, .int .i64 re] 39) ∧ s_ = w.heap.size := ⟨_, _, rfl, rfl⟩
    rw [← ex1, ← es_]
    have hbx : Below w.heap.size w x1 := by rw [ex1]; exact below_alloc1 _ _ 
    have g_S : w.heap.size ≤ s_ := by rw [es_]; exact Nat.le_refl _
    have BS := Lib.hid (show Blk x1 s_ 39 #[.int .i64 at_, .int .i64 lo, .int .i64 hi, .int .i64 pp, .int .i64 le, .int .i64 re] by rw [ex1, es_]; exact blk_new1_0 _ _ _ )
    have R2 := Lib.hid hbx
    have hz_x1 := R2.out.size
    clear hbx ex1 es_
    have kS_0 : x1.cell? ⟨s_, 0, none⟩ = some (.int .i64 at_) := BS.out.cell 0
    have kS_1 : x1.cell? ⟨s_, 1, none⟩ = some (.int .i64 lo) := BS.out.cell 1
    have kS_2 : x1.cell? ⟨s_, 2, none⟩ = some (.int .i64 hi) := BS.out.cell 2
    have kS_3 : x1.cell? ⟨s_, 3, none⟩ = some (.int .i64 pp) := BS.out.cell 3
    have kS_4 : x1.cell? ⟨s_, 4, none⟩ = some (.int .i64 le) := BS.out.cell 4
    have kS_5 : x1.cell? ⟨s_, 5, none⟩ = some (.int .i64 re) := BS.out.cell 5
    go_wp2_with fail
    refine (intervalV lo hi _).mono ?_
    rintro e y3 ⟨rfl, hb⟩
    clear kS_0 kS_1 kS_2 kS_3 kS_4 kS_5
    have hbx : Below x1.heap.size x1 y3 := below_via (by go_grown) hb (by first | (simp; done) | (simp; omega))
    have BS := Lib.hid (BS.out.stays hbx)
    have R4 := Lib.hid (R2.out.trans (hbx.mono hz_x1))
    have hz_y3 := R4.out.size
    clear hb hbx  R2 hz_x1
    have kS_0 : y3.cell? ⟨s_, 0, none⟩ = some (.int .i64 at_) := BS.out.cell 0
    have kS_1 : y3.cell? ⟨s_, 1, none⟩ = some (.int .i64 lo) := BS.out.cell 1
    have kS_2 : y3.cell? ⟨s_, 2, none⟩ = some (.int .i64 hi) := BS.out.cell 2
    have kS_3 : y3.cell? ⟨s_, 3, none⟩ = some (.int .i64 pp) := BS.out.cell 3
    have kS_4 : y3.cell? ⟨s_, 4, none⟩ = some (.int .i64 le) := BS.out.cell 4
    have kS_5 : y3.cell? ⟨s_, 5, none⟩ = some (.int .i64 re) := BS.out.cell 5
    rw [d0]
    go_wp2_with fail
    refine (ticksV at_ _).mono ?_
    rintro e q_ ⟨rfl, rfl⟩
    rw [d1]
    go_wp2_with fail
    refine (countedV le _).mono ?_
    rintro e q_ ⟨rfl, rfl⟩
    rw [d4]
    go_wp2
    go_ret
    exact ⟨rfl, by first | exact R4.out | go_grown⟩
  have d4 := decide_eq_true h4
  by_cases h5 : cntOk re
  case neg =>
    have hr : knE at_ lo hi pp le re = 4 := (if_pos h0).trans (if_neg (fun h => h5 h.2.2.2.2))
    rw [hr]
    clear hr
    have d5 := decide_eq_false h5
    clear h5
    go_enter Try.func70, Try.ntmps70
    go_upto_region 1 with fail
    obtain ⟨x1, s_, ex1, es_⟩ : ∃ x1 s_, x1 = w.alloc (.cells #[.int .i64 at_, .int .i64 lo, .int .i64 hi, .int .i64 pp, .int .i64 le, .int .i64 re] 39) ∧ s_ = w.heap.size := ⟨_, _, rfl, rfl⟩
    rw [← ex1, ← es_]
    have hbx : Below w.heap.size w x1 := by rw [ex1]; exact below_alloc1 _ _ 
    have g_S : w.heap.size ≤ s_ := by rw [es_]; exact Nat.le_refl _
    have BS := Lib.hid (show Blk x1 s_ 39 #[.int .i64 at_, .int .i64 lo, .int .i64 hi, .int .i64 pp, .int .i64 le, .int .i64 re] by rw [ex1, es_]; exact blk_new1_0 _ _ _ )
    have R2 := Lib.hid hbx
    have hz_x1 := R2.out.size
    clear hbx ex1 es_
    have kS_0 : x1.cell? ⟨s_, 0, none⟩ = some (.int .i64 at_) := BS.out.cell 0
    have kS_1 : x1.cell? ⟨s_, 1, none⟩ = some (.int .i64 lo) := BS.out.cell 1
    have kS_2 : x1.cell? ⟨s_, 2, none⟩ = some (.int .i64 hi) := BS.out.cell 2
    have kS_3 : x1.cell? ⟨s_, 3, none⟩ = some (.int .i64 pp) := BS.out.cell 3
    have kS_4 : x1.cell? ⟨s_, 4, none⟩ = some (.int .i64 le) := BS.out.cell 4
    have kS_5 : x1.cell? ⟨s_, 5, none⟩ = some (.int .i64 re) := BS.out.cell 5
    go_wp2_with fail
    refine (intervalV lo hi _).mono ?_
    rintro e y3 ⟨rfl, hb⟩
    clear kS_0 kS_1 kS_2 kS_3 kS_4 kS_5
    have hbx : Below x1.heap.size x1 y3 := below_via (by go_grown) hb (by first | (simp; done) | (simp; omega))
    have BS := Lib.hid (BS.out.stays hbx)
    have R4 := Lib.hid (R2.out.trans (hbx.mono hz_x1))
    have hz_y3 := R4.out.size
    clear hb hbx  R2 hz_x1
    have kS_0 : y3.cell? ⟨s_, 0, none⟩ = some (.int .i64 at_) := BS.out.cell 0
    have kS_1 : y3.cell? ⟨s_, 1, none⟩ = some (.int .i64 lo) := BS.out.cell 1
    have kS_2 : y3.cell? ⟨s_, 2, none⟩ = some (.int .i64 hi) := BS.out.cell 2
    have kS_3 : y3.cell? ⟨s_, 3, none⟩ = some (.int .i64 pp) := BS.out.cell 3
    have kS_4 : y3.cell? ⟨s_, 4, none⟩ = some (.int .i64 le) := BS.out.cell 4
    have kS_5 : y3.cell? ⟨s_, 5, none⟩ = some (.int .i64 re) := BS.out.cell 5
    rw [d0]
    go_wp2_with fail
    refine (ticksV at_ _).mono ?_
    rintro e q_ ⟨rfl, rfl⟩
    rw [d1]
    go_wp2_with fail
    refine (countedV le _).mono ?_
    rintro e q_ ⟨rfl, rfl⟩
    rw [d4]
    go_wp2_with fail
    refine (countedV re _).mono ?_
    rintro e q_ ⟨rfl, rfl⟩
    rw [d5]
    go_wp2
    go_ret
    exact ⟨rfl, by first | exact R4.out | go_grown⟩
  have d5 := decide_eq_true h5
  have hr : knE at_ lo hi pp le re = 0 := (if_pos h0).trans (if_pos ⟨h1, h2, h3, h4, h5⟩)
  rw [hr]
  clear hr
  clear h0 h1 h4 h5
  go_enter Try.func70, Try.ntmps70
  go_upto_region 1 with fail
  obtain ⟨x1, s_, ex1, es_⟩ : ∃ x1 s_, x1 = w.alloc (.cells #[.int .i64 at_, .int .i64 lo, .int .i64 hi, .int .i64 pp, .int .i64 le, .int .i64 re] 39) ∧ s_ = w.heap.size := ⟨_, _, rfl, rfl⟩
  rw [← ex1, ← es_]
  have hbx : Below w.heap.size w x1 := by rw [ex1]; exact below_alloc1 _ _ 
  have g_S : w.heap.size ≤ s_ := by rw [es_]; exact Nat.le_refl _
  have BS := Lib.hid (show Blk x1 s_ 39 #[.int .i64 at_, .int .i64 lo, .int .i64 hi, .int .i64 pp, .int .i64 le, .int .i64 re] by rw [ex1, es_]; exact blk_new1_0 _ _ _ )
  have R2 := Lib.hid hbx
  have hz_x1 := R2.out.size
  clear hbx ex1 es_
  have kS_0 : x1.cell? ⟨s_, 0, none⟩ = some (.int .i64 at_) := BS.out.cell 0
  have kS_1 : x1.cell? ⟨s_, 1, none⟩ = some (.int .i64 lo) := BS.out.cell 1
  have kS_2 : x1.cell? ⟨s_, 2, none⟩ = some (.int .i64 hi) := BS.out.cell 2
  have kS_3 : x1.cell? ⟨s_, 3, none⟩ = some (.int .i64 pp) := BS.out.cell 3
  have kS_4 : x1.cell? ⟨s_, 4, none⟩ = some (.int .i64 le) := BS.out.cell 4
  have kS_5 : x1.cell? ⟨s_, 5, none⟩ = some (.int .i64 re) := BS.out.cell 5
  go_wp2_with fail
  refine (intervalV lo hi _).mono ?_
  rintro e y3 ⟨rfl, hb⟩
  clear kS_0 kS_1 kS_2 kS_3 kS_4 kS_5
  have hbx : Below x1.heap.size x1 y3 := below_via (by go_grown) hb (by first | (simp; done) | (simp; omega))
  have BS := Lib.hid (BS.out.stays hbx)
  have R4 := Lib.hid (R2.out.trans (hbx.mono hz_x1))
  have hz_y3 := R4.out.size
  clear hb hbx  R2 hz_x1
  have kS_0 : y3.cell? ⟨s_, 0, none⟩ = some (.int .i64 at_) := BS.out.cell 0
  have kS_1 : y3.cell? ⟨s_, 1, none⟩ = some (.int .i64 lo) := BS.out.cell 1
  have kS_2 : y3.cell? ⟨s_, 2, none⟩ = some (.int .i64 hi) := BS.out.cell 2
  have kS_3 : y3.cell? ⟨s_, 3, none⟩ = some (.int .i64 pp) := BS.out.cell 3
  have kS_4 : y3.cell? ⟨s_, 4, none⟩ = some (.int .i64 le) := BS.out.cell 4
  have kS_5 : y3.cell? ⟨s_, 5, none⟩ = some (.int .i64 re) := BS.out.cell 5
  rw [d0]
  go_wp2_with fail
  refine (ticksV at_ _).mono ?_
  rintro e q_ ⟨rfl, rfl⟩
  rw [d1]
  go_wp2_with fail
  refine (countedV le _).mono ?_
  rintro e q_ ⟨rfl, rfl⟩
  rw [d4]
  go_wp2_with fail
  refine (countedV re _).mono ?_
  rintro e q_ ⟨rfl, rfl⟩
  rw [d5]
  go_wp2
  go_ret
  exact ⟨rfl, by first | exact R4.out | go_grown⟩
set_option maxRecDepth 100000 in
set_option maxHeartbeats 4000000 in
theorem refKnownV (at_ lo hi pp le re : Int) (w : World) : Calls Try.prog 75 #[.agg #[.int .i64 at_, .int .i64 lo, .int .i64 hi, .int .i64 pp, .int .i64 le, .int .i64 re]] w fun e w' => e = .returned (.int .i64 (knE at_ lo hi pp le re)) ∧ Below w.heap.size w w' := by
  by_cases h0 : spanOk lo hi
  case neg =>
    have hr : knE at_ lo hi pp le re = 3 := if_neg h0
    rw [hr]
    clear hr
    have d0 := decide_eq_false h0
    clear h0
    go_enter Try.func75, Try.ntmps75
    go_upto_region 1 with fail
    obtain ⟨x1, s_, ex1, es_⟩ : ∃ x1 s_, x1 = w.alloc (.cells #[.int .i64 at_, .int .i64 lo, .int .i64 hi, .int .i64 pp, .int .i64 le, .int .i64 re] 39) ∧ s_ = w.heap.size := ⟨_, _, rfl, rfl⟩
    rw [← ex1, ← es_]
    have hbx : Below w.heap.size w x1 := by rw [ex1]; exact below_alloc1 _ _ 
    have g_S : w.heap.size ≤ s_ := by rw [es_]; exact Nat.le_refl _
    have BS := Lib.hid (show Blk x1 s_ 39 #[.int .i64 at_, .int .i64 lo, .int .i64 hi, .int .i64 pp, .int .i64 le, .int .i64 re] by rw [ex1, es_]; exact blk_new1_0 _ _ _ )
    have R2 := Lib.hid hbx
    have hz_x1 := R2.out.size
    clear hbx ex1 es_
    have kS_0 : x1.cell? ⟨s_, 0, none⟩ = some (.int .i64 at_) := BS.out.cell 0
    have kS_1 : x1.cell? ⟨s_, 1, none⟩ = some (.int .i64 lo) := BS.out.cell 1
    have kS_2 : x1.cell? ⟨s_, 2, none⟩ = some (.int .i64 hi) := BS.out.cell 2
    have kS_3 : x1.cell? ⟨s_, 3, none⟩ = some (.int .i64 pp) := BS.out.cell 3
    have kS_4 : x1.cell? ⟨s_, 4, none⟩ = some (.int .i64 le) := BS.out.cell 4
    have kS_5 : x1.cell? ⟨s_, 5, none⟩ = some (.int .i64 re) := BS.out.cell 5
    go_wp2_with fail
    refine (refSpanV lo hi _).mono ?_
    rintro e y3 ⟨rfl, hb⟩
    clear kS_0 kS_1 kS_2 kS_3 kS_4 kS_5
    have hbx : Below x1.heap.size x1 y3 := below_via (by go_grown) hb (by first | (simp; done) | (simp; omega))
    have BS := Lib.hid (BS.out.stays hbx)
    have R4 := Lib.hid (R2.out.trans (hbx.mono hz_x1))
    have hz_y3 := R4.out.size
    clear hb hbx  R2 hz_x1
    have kS_0 : y3.cell? ⟨s_, 0, none⟩ = some (.int .i64 at_) := BS.out.cell 0
    have kS_1 : y3.cell? ⟨s_, 1, none⟩ = some (.int .i64 lo) := BS.out.cell 1
    have kS_2 : y3.cell? ⟨s_, 2, none⟩ = some (.int .i64 hi) := BS.out.cell 2
    have kS_3 : y3.cell? ⟨s_, 3, none⟩ = some (.int .i64 pp) := BS.out.cell 3
    have kS_4 : y3.cell? ⟨s_, 4, none⟩ = some (.int .i64 le) := BS.out.cell 4
    have kS_5 : y3.cell? ⟨s_, 5, none⟩ = some (.int .i64 re) := BS.out.cell 5
    rw [d0]
    go_wp2
    go_ret
    exact ⟨rfl, by first | exact R4.out | go_grown⟩
  have d0 := decide_eq_true h0
  by_cases h1 : tickOk at_
  case neg =>
    have hr : knE at_ lo hi pp le re = 4 := (if_pos h0).trans (if_neg (fun h => h1 h.1))
    rw [hr]
    clear hr
    have d1 := decide_eq_false h1
    clear h1
    go_enter Try.func75, Try.ntmps75
    go_upto_region 1 with fail
    obtain ⟨x1, s_, ex1, es_⟩ : ∃ x1 s_, x1 = w.alloc (.cells #[.int .i64 at_, .int .i64 lo, .int .i64 hi, .int .i64 pp, .int .i64 le, .int .i64 re] 39) ∧ s_ = w.heap.size := ⟨_, _, rfl, rfl⟩
    rw [← ex1, ← es_]
    have hbx : Below w.heap.size w x1 := by rw [ex1]; exact below_alloc1 _ _ 
    have g_S : w.heap.size ≤ s_ := by rw [es_]; exact Nat.le_refl _
    have BS := Lib.hid (show Blk x1 s_ 39 #[.int .i64 at_, .int .i64 lo, .int .i64 hi, .int .i64 pp, .int .i64 le, .int .i64 re] by rw [ex1, es_]; exact blk_new1_0 _ _ _ )
    have R2 := Lib.hid hbx
    have hz_x1 := R2.out.size
    clear hbx ex1 es_
    have kS_0 : x1.cell? ⟨s_, 0, none⟩ = some (.int .i64 at_) := BS.out.cell 0
    have kS_1 : x1.cell? ⟨s_, 1, none⟩ = some (.int .i64 lo) := BS.out.cell 1
    have kS_2 : x1.cell? ⟨s_, 2, none⟩ = some (.int .i64 hi) := BS.out.cell 2
    have kS_3 : x1.cell? ⟨s_, 3, none⟩ = some (.int .i64 pp) := BS.out.cell 3
    have kS_4 : x1.cell? ⟨s_, 4, none⟩ = some (.int .i64 le) := BS.out.cell 4
    have kS_5 : x1.cell? ⟨s_, 5, none⟩ = some (.int .i64 re) := BS.out.cell 5
    go_wp2_with fail
    refine (refSpanV lo hi _).mono ?_
    rintro e y3 ⟨rfl, hb⟩
    clear kS_0 kS_1 kS_2 kS_3 kS_4 kS_5
    have hbx : Below x1.heap.size x1 y3 := below_via (by go_grown) hb (by first | (simp; done) | (simp; omega))
    have BS := Lib.hid (BS.out.stays hbx)
    have R4 := Lib.hid (R2.out.trans (hbx.mono hz_x1))
    have hz_y3 := R4.out.size
    clear hb hbx  R2 hz_x1
    have kS_0 : y3.cell? ⟨s_, 0, none⟩ = some (.int .i64 at_) := BS.out.cell 0
    have kS_1 : y3.cell? ⟨s_, 1, none⟩ = some (.int .i64 lo) := BS.out.cell 1
    have kS_2 : y3.cell? ⟨s_, 2, none⟩ = some (.int .i64 hi) := BS.out.cell 2
    have kS_3 : y3.cell? ⟨s_, 3, none⟩ = some (.int .i64 pp) := BS.out.cell 3
    have kS_4 : y3.cell? ⟨s_, 4, none⟩ = some (.int .i64 le) := BS.out.cell 4
    have kS_5 : y3.cell? ⟨s_, 5, none⟩ = some (.int .i64 re) := BS.out.cell 5
    rw [d0]
    go_wp2_with fail
    refine (refTicksV at_ _).mono ?_
    rintro e q_ ⟨rfl, rfl⟩
    rw [d1]
    go_wp2
    go_ret
    exact ⟨rfl, by first | exact R4.out | go_grown⟩
  have d1 := decide_eq_true h1
  by_cases h2 : 0 ≤ pp
  case neg =>
    have hr : knE at_ lo hi pp le re = 4 := (if_pos h0).trans (if_neg (fun h => h2 h.2.1))
    rw [hr]
    clear hr
    have c2 : pp < 0 := by omega
    clear h2
    go_enter Try.func75, Try.ntmps75
    go_upto_region 1 with fail
    obtain ⟨x1, s_, ex1, es_⟩ : ∃ x1 s_, x1 = w.alloc (.cells #[.int .i64 at_, .int .i64 lo, .int .i64 hi, .int .i64 pp, .int .i64 le, .int .i64 re] 39) ∧ s_ = w.heap.size := ⟨_, _, rfl, rfl⟩
    rw [← ex1, ← es_]
    have hbx : Below w.heap.size w x1 := by rw [ex1]; exact below_alloc1 _ _ 
    have g_S : w.heap.size ≤ s_ := by rw [es_]; exact Nat.le_refl _
    have BS := Lib.hid (show Blk x1 s_ 39 #[.int .i64 at_, .int .i64 lo, .int .i64 hi, .int .i64 pp, .int .i64 le, .int .i64 re] by rw [ex1, es_]; exact blk_new1_0 _ _ _ )
    have R2 := Lib.hid hbx
    have hz_x1 := R2.out.size
    clear hbx ex1 es_
    have kS_0 : x1.cell? ⟨s_, 0, none⟩ = some (.int .i64 at_) := BS.out.cell 0
    have kS_1 : x1.cell? ⟨s_, 1, none⟩ = some (.int .i64 lo) := BS.out.cell 1
    have kS_2 : x1.cell? ⟨s_, 2, none⟩ = some (.int .i64 hi) := BS.out.cell 2
    have kS_3 : x1.cell? ⟨s_, 3, none⟩ = some (.int .i64 pp) := BS.out.cell 3
    have kS_4 : x1.cell? ⟨s_, 4, none⟩ = some (.int .i64 le) := BS.out.cell 4
    have kS_5 : x1.cell? ⟨s_, 5, none⟩ = some (.int .i64 re) := BS.out.cell 5
    go_wp2_with fail
    refine (refSpanV lo hi _).mono ?_
    rintro e y3 ⟨rfl, hb⟩
    clear kS_0 kS_1 kS_2 kS_3 kS_4 kS_5
    have hbx : Below x1.heap.size x1 y3 := below_via (by go_grown) hb (by first | (simp; done) | (simp; omega))
    have BS := Lib.hid (BS.out.stays hbx)
    have R4 := Lib.hid (R2.out.trans (hbx.mono hz_x1))
    have hz_y3 := R4.out.size
    clear hb hbx  R2 hz_x1
    have kS_0 : y3.cell? ⟨s_, 0, none⟩ = some (.int .i64 at_) := BS.out.cell 0
    have kS_1 : y3.cell? ⟨s_, 1, none⟩ = some (.int .i64 lo) := BS.out.cell 1
    have kS_2 : y3.cell? ⟨s_, 2, none⟩ = some (.int .i64 hi) := BS.out.cell 2
    have kS_3 : y3.cell? ⟨s_, 3, none⟩ = some (.int .i64 pp) := BS.out.cell 3
    have kS_4 : y3.cell? ⟨s_, 4, none⟩ = some (.int .i64 le) := BS.out.cell 4
    have kS_5 : y3.cell? ⟨s_, 5, none⟩ = some (.int .i64 re) := BS.out.cell 5
    rw [d0]
    go_wp2_with fail
    refine (refTicksV at_ _).mono ?_
    rintro e q_ ⟨rfl, rfl⟩
    rw [d1]
    go_wp2
    go_ret
    exact ⟨rfl, by first | exact R4.out | go_grown⟩
  by_cases h3 : pp ≤ 1000000
  case neg =>
    have hr : knE at_ lo hi pp le re = 4 := (if_pos h0).trans (if_neg (fun h => h3 h.2.2.1))
    rw [hr]
    clear hr
    have c3 : 1000000 < pp := by omega
    clear h3
    go_enter Try.func75, Try.ntmps75
    go_upto_region 1 with fail
    obtain ⟨x1, s_, ex1, es_⟩ : ∃ x1 s_, x1 = w.alloc (.cells #[.int .i64 at_, .int .i64 lo, .int .i64 hi, .int .i64 pp, .int .i64 le, .int .i64 re] 39) ∧ s_ = w.heap.size := ⟨_, _, rfl, rfl⟩
    rw [← ex1, ← es_]
    have hbx : Below w.heap.size w x1 := by rw [ex1]; exact below_alloc1 _ _ 
    have g_S : w.heap.size ≤ s_ := by rw [es_]; exact Nat.le_refl _
    have BS := Lib.hid (show Blk x1 s_ 39 #[.int .i64 at_, .int .i64 lo, .int .i64 hi, .int .i64 pp, .int .i64 le, .int .i64 re] by rw [ex1, es_]; exact blk_new1_0 _ _ _ )
    have R2 := Lib.hid hbx
    have hz_x1 := R2.out.size
    clear hbx ex1 es_
    have kS_0 : x1.cell? ⟨s_, 0, none⟩ = some (.int .i64 at_) := BS.out.cell 0
    have kS_1 : x1.cell? ⟨s_, 1, none⟩ = some (.int .i64 lo) := BS.out.cell 1
    have kS_2 : x1.cell? ⟨s_, 2, none⟩ = some (.int .i64 hi) := BS.out.cell 2
    have kS_3 : x1.cell? ⟨s_, 3, none⟩ = some (.int .i64 pp) := BS.out.cell 3
    have kS_4 : x1.cell? ⟨s_, 4, none⟩ = some (.int .i64 le) := BS.out.cell 4
    have kS_5 : x1.cell? ⟨s_, 5, none⟩ = some (.int .i64 re) := BS.out.cell 5
    go_wp2_with fail
    refine (refSpanV lo hi _).mono ?_
    rintro e y3 ⟨rfl, hb⟩
    clear kS_0 kS_1 kS_2 kS_3 kS_4 kS_5
    have hbx : Below x1.heap.size x1 y3 := below_via (by go_grown) hb (by first | (simp; done) | (simp; omega))
    have BS := Lib.hid (BS.out.stays hbx)
    have R4 := Lib.hid (R2.out.trans (hbx.mono hz_x1))
    have hz_y3 := R4.out.size
    clear hb hbx  R2 hz_x1
    have kS_0 : y3.cell? ⟨s_, 0, none⟩ = some (.int .i64 at_) := BS.out.cell 0
    have kS_1 : y3.cell? ⟨s_, 1, none⟩ = some (.int .i64 lo) := BS.out.cell 1
    have kS_2 : y3.cell? ⟨s_, 2, none⟩ = some (.int .i64 hi) := BS.out.cell 2
    have kS_3 : y3.cell? ⟨s_, 3, none⟩ = some (.int .i64 pp) := BS.out.cell 3
    have kS_4 : y3.cell? ⟨s_, 4, none⟩ = some (.int .i64 le) := BS.out.cell 4
    have kS_5 : y3.cell? ⟨s_, 5, none⟩ = some (.int .i64 re) := BS.out.cell 5
    rw [d0]
    go_wp2_with fail
    refine (refTicksV at_ _).mono ?_
    rintro e q_ ⟨rfl, rfl⟩
    rw [d1]
    go_wp2
    go_ret
    exact ⟨rfl, by first | exact R4.out | go_grown⟩
  by_cases h4 : cntOk le
  case neg =>
    have hr : knE at_ lo hi pp le re = 4 := (if_pos h0).trans (if_neg (fun h => h4 h.2.2.2.1))
    rw [hr]
    clear hr
    have d4 := decide_eq_false h4
    clear h4
    go_enter Try.func75, Try.ntmps75
    go_upto_region 1 with fail
    obtain ⟨x1, s_, ex1, es_⟩ : ∃ x1 s_, x1 = w.alloc (.cells #[.int .i64 at_, .int .i64 lo, .int .i64 hi, .int .i64 pp, .int .i64 le, .int .i64 re] 39) ∧ s_ = w.heap.size := ⟨_, _, rfl, rfl⟩
    rw [← ex1, ← es_]
    have hbx : Below w.heap.size w x1 := by rw [ex1]; exact below_alloc1 _ _ 
    have g_S : w.heap.size ≤ s_ := by rw [es_]; exact Nat.le_refl _
    have BS := Lib.hid (show Blk x1 s_ 39 #[.int .i64 at_, .int .i64 lo, .int .i64 hi, .int .i64 pp, .int .i64 le, .int .i64 re] by rw [ex1, es_]; exact blk_new1_0 _ _ _ )
    have R2 := Lib.hid hbx
    have hz_x1 := R2.out.size
    clear hbx ex1 es_
    have kS_0 : x1.cell? ⟨s_, 0, none⟩ = some (.int .i64 at_) := BS.out.cell 0
    have kS_1 : x1.cell? ⟨s_, 1, none⟩ = some (.int .i64 lo) := BS.out.cell 1
    have kS_2 : x1.cell? ⟨s_, 2, none⟩ = some (.int .i64 hi) := BS.out.cell 2
    have kS_3 : x1.cell? ⟨s_, 3, none⟩ = some (.int .i64 pp) := BS.out.cell 3
    have kS_4 : x1.cell? ⟨s_, 4, none⟩ = some (.int .i64 le) := BS.out.cell 4
    have kS_5 : x1.cell? ⟨s_, 5, none⟩ = some (.int .i64 re) := BS.out.cell 5
    go_wp2_with fail
    refine (refSpanV lo hi _).mono ?_
    rintro e y3 ⟨rfl, hb⟩
    clear kS_0 kS_1 kS_2 kS_3 kS_4 kS_5
    have hbx : Below x1.heap.size x1 y3 := below_via (by go_grown) hb (by first | (simp; done) | (simp; omega))
    have BS := Lib.hid (BS.out.stays hbx)
    have R4 := Lib.hid (R2.out.trans (hbx.mono hz_x1))
    have hz_y3 := R4.out.size
    clear hb hbx  R2 hz_x1
    have kS_0 : y3.cell? ⟨s_, 0, none⟩ = some (.int .i64 at_) := BS.out.cell 0
    have kS_1 : y3.cell? ⟨s_, 1, none⟩ = some (.int .i64 lo) := BS.out.cell 1
    have kS_2 : y3.cell? ⟨s_, 2, none⟩ = some (.int .i64 hi) := BS.out.cell 2
    have kS_3 : y3.cell? ⟨s_, 3, none⟩ = some (.int .i64 pp) := BS.out.cell 3
    have kS_4 : y3.cell? ⟨s_, 4, none⟩ = some (.int .i64 le) := BS.out.cell 4
    have kS_5 : y3.cell? ⟨s_, 5, none⟩ = some (.int .i64 re) := BS.out.cell 5
    rw [d0]
    go_wp2_with fail
    refine (refTicksV at_ _).mono ?_
    rintro e q_ ⟨rfl, rfl⟩
    rw [d1]
    go_wp2_with fail
    refine (counterV le _).mono ?_
    rintro e q_ ⟨rfl, rfl⟩
    rw [d4]
    go_wp2
    go_ret
    exact ⟨rfl, by first | exact R4.out | go_grown⟩
  have d4 := decide_eq_true h4
  by_cases h5 : cntOk re
  case neg =>
    have hr : knE at_ lo hi pp le re = 4 := (if_pos h0).trans (if_neg (fun h => h5 h.2.2.2.2))
    rw [hr]
    clear hr
    have d5 := decide_eq_false h5
    clear h5
    go_enter Try.func75, Try.ntmps75
    go_upto_region 1 with fail
    obtain ⟨x1, s_, ex1, es_⟩ : ∃ x1 s_, x1 = w.alloc (.cells #[.int .i64 at_, .int .i64 lo, .int .i64 hi, .int .i64 pp, .int .i64 le, .int .i64 re] 39) ∧ s_ = w.heap.size := ⟨_, _, rfl, rfl⟩
    rw [← ex1, ← es_]
    have hbx : Below w.heap.size w x1 := by rw [ex1]; exact below_alloc1 _ _ 
    have g_S : w.heap.size ≤ s_ := by rw [es_]; exact Nat.le_refl _
    have BS := Lib.hid (show Blk x1 s_ 39 #[.int .i64 at_, .int .i64 lo, .int .i64 hi, .int .i64 pp, .int .i64 le, .int .i64 re] by rw [ex1, es_]; exact blk_new1_0 _ _ _ )
    have R2 := Lib.hid hbx
    have hz_x1 := R2.out.size
    clear hbx ex1 es_
    have kS_0 : x1.cell? ⟨s_, 0, none⟩ = some (.int .i64 at_) := BS.out.cell 0
    have kS_1 : x1.cell? ⟨s_, 1, none⟩ = some (.int .i64 lo) := BS.out.cell 1
    have kS_2 : x1.cell? ⟨s_, 2, none⟩ = some (.int .i64 hi) := BS.out.cell 2
    have kS_3 : x1.cell? ⟨s_, 3, none⟩ = some (.int .i64 pp) := BS.out.cell 3
    have kS_4 : x1.cell? ⟨s_, 4, none⟩ = some (.int .i64 le) := BS.out.cell 4
    have kS_5 : x1.cell? ⟨s_, 5, none⟩ = some (.int .i64 re) := BS.out.cell 5
    go_wp2_with fail
    refine (refSpanV lo hi _).mono ?_
    rintro e y3 ⟨rfl, hb⟩
    clear kS_0 kS_1 kS_2 kS_3 kS_4 kS_5
    have hbx : Below x1.heap.size x1 y3 := below_via (by go_grown) hb (by first | (simp; done) | (simp; omega))
    have BS := Lib.hid (BS.out.stays hbx)
    have R4 := Lib.hid (R2.out.trans (hbx.mono hz_x1))
    have hz_y3 := R4.out.size
    clear hb hbx  R2 hz_x1
    have kS_0 : y3.cell? ⟨s_, 0, none⟩ = some (.int .i64 at_) := BS.out.cell 0
    have kS_1 : y3.cell? ⟨s_, 1, none⟩ = some (.int .i64 lo) := BS.out.cell 1
    have kS_2 : y3.cell? ⟨s_, 2, none⟩ = some (.int .i64 hi) := BS.out.cell 2
    have kS_3 : y3.cell? ⟨s_, 3, none⟩ = some (.int .i64 pp) := BS.out.cell 3
    have kS_4 : y3.cell? ⟨s_, 4, none⟩ = some (.int .i64 le) := BS.out.cell 4
    have kS_5 : y3.cell? ⟨s_, 5, none⟩ = some (.int .i64 re) := BS.out.cell 5
    rw [d0]
    go_wp2_with fail
    refine (refTicksV at_ _).mono ?_
    rintro e q_ ⟨rfl, rfl⟩
    rw [d1]
    go_wp2_with fail
    refine (counterV le _).mono ?_
    rintro e q_ ⟨rfl, rfl⟩
    rw [d4]
    go_wp2_with fail
    refine (counterV re _).mono ?_
    rintro e q_ ⟨rfl, rfl⟩
    rw [d5]
    go_wp2
    go_ret
    exact ⟨rfl, by first | exact R4.out | go_grown⟩
  have d5 := decide_eq_true h5
  have hr : knE at_ lo hi pp le re = 0 := (if_pos h0).trans (if_pos ⟨h1, h2, h3, h4, h5⟩)
  rw [hr]
  clear hr
  clear h0 h1 h4 h5
  go_enter Try.func75, Try.ntmps75
  go_upto_region 1 with fail
  obtain ⟨x1, s_, ex1, es_⟩ : ∃ x1 s_, x1 = w.alloc (.cells #[.int .i64 at_, .int .i64 lo, .int .i64 hi, .int .i64 pp, .int .i64 le, .int .i64 re] 39) ∧ s_ = w.heap.size := ⟨_, _, rfl, rfl⟩
  rw [← ex1, ← es_]
  have hbx : Below w.heap.size w x1 := by rw [ex1]; exact below_alloc1 _ _ 
  have g_S : w.heap.size ≤ s_ := by rw [es_]; exact Nat.le_refl _
  have BS := Lib.hid (show Blk x1 s_ 39 #[.int .i64 at_, .int .i64 lo, .int .i64 hi, .int .i64 pp, .int .i64 le, .int .i64 re] by rw [ex1, es_]; exact blk_new1_0 _ _ _ )
  have R2 := Lib.hid hbx
  have hz_x1 := R2.out.size
  clear hbx ex1 es_
  have kS_0 : x1.cell? ⟨s_, 0, none⟩ = some (.int .i64 at_) := BS.out.cell 0
  have kS_1 : x1.cell? ⟨s_, 1, none⟩ = some (.int .i64 lo) := BS.out.cell 1
  have kS_2 : x1.cell? ⟨s_, 2, none⟩ = some (.int .i64 hi) := BS.out.cell 2
  have kS_3 : x1.cell? ⟨s_, 3, none⟩ = some (.int .i64 pp) := BS.out.cell 3
  have kS_4 : x1.cell? ⟨s_, 4, none⟩ = some (.int .i64 le) := BS.out.cell 4
  have kS_5 : x1.cell? ⟨s_, 5, none⟩ = some (.int .i64 re) := BS.out.cell 5
  go_wp2_with fail
  refine (refSpanV lo hi _).mono ?_
  rintro e y3 ⟨rfl, hb⟩
  clear kS_0 kS_1 kS_2 kS_3 kS_4 kS_5
  have hbx : Below x1.heap.size x1 y3 := below_via (by go_grown) hb (by first | (simp; done) | (simp; omega))
  have BS := Lib.hid (BS.out.stays hbx)
  have R4 := Lib.hid (R2.out.trans (hbx.mono hz_x1))
  have hz_y3 := R4.out.size
  clear hb hbx  R2 hz_x1
  have kS_0 : y3.cell? ⟨s_, 0, none⟩ = some (.int .i64 at_) := BS.out.cell 0
  have kS_1 : y3.cell? ⟨s_, 1, none⟩ = some (.int .i64 lo) := BS.out.cell 1
  have kS_2 : y3.cell? ⟨s_, 2, none⟩ = some (.int .i64 hi) := BS.out.cell 2
  have kS_3 : y3.cell? ⟨s_, 3, none⟩ = some (.int .i64 pp) := BS.out.cell 3
  have kS_4 : y3.cell? ⟨s_, 4, none⟩ = some (.int .i64 le) := BS.out.cell 4
  have kS_5 : y3.cell? ⟨s_, 5, none⟩ = some (.int .i64 re) := BS.out.cell 5
  rw [d0]
  go_wp2_with fail
  refine (refTicksV at_ _).mono ?_
  rintro e q_ ⟨rfl, rfl⟩
  rw [d1]
  go_wp2_with fail
  refine (counterV le _).mono ?_
  rintro e q_ ⟨rfl, rfl⟩
  rw [d4]
  go_wp2_with fail
  refine (counterV re _).mono ?_
  rintro e q_ ⟨rfl, rfl⟩
  rw [d5]
  go_wp2
  go_ret
  exact ⟨rfl, by first | exact R4.out | go_grown⟩
set_option maxRecDepth 100000 in
set_option maxHeartbeats 4000000 in
theorem savedV (cn at_ lo hi pp le re : Int) (w : World) : Calls Try.prog 56 #[.agg #[.int .i64 cn, .int .i64 at_, .int .i64 lo, .int .i64 hi, .int .i64 pp, .int .i64 le, .int .i64 re]] w fun e w' => e = .returned (.int .i64 (svE cn at_ lo hi pp le re)) ∧ Below w.heap.size w w' := by
  rcases knE_cases at_ lo hi pp le re with hk | hk | hk
  · by_cases h1 : 0 ≤ cn
    · by_cases h2 : cn ≤ 1152921504606846976
      · have hr : svE cn at_ lo hi pp le re = 0 := (if_pos hk).trans (if_pos ⟨h1, h2⟩)
        rw [hr]
        clear hr
        go_enter Try.func56, Try.ntmps56
        go_upto_region 1 with fail
        obtain ⟨x1, s_, ex1, es_⟩ : ∃ x1 s_, x1 = w.alloc (.cells #[.int .i64 cn, .int .i64 at_, .int .i64 lo, .int .i64 hi, .int .i64 pp, .int .i64 le, .int .i64 re] 41) ∧ s_ = w.heap.size := ⟨_, _, rfl, rfl⟩
        rw [← ex1, ← es_]
        have hbx : Below w.heap.size w x1 := by rw [ex1]; exact below_alloc1 _ _ 
        have g_S : w.heap.size ≤ s_ := by rw [es_]; exact Nat.le_refl _
        have BS := Lib.hid (show Blk x1 s_ 41 #[.int .i64 cn, .int .i64 at_, .int .i64 lo, .int .i64 hi, .int .i64 pp, .int .i64 le, .int .i64 re] by rw [ex1, es_]; exact blk_new1_0 _ _ _ )
        have R2 := Lib.hid hbx
        have hz_x1 := R2.out.size
        clear hbx ex1 es_
        have kS_0 : x1.cell? ⟨s_, 0, none⟩ = some (.int .i64 cn) := BS.out.cell 0
        have kS_1 : x1.cell? ⟨s_, 1, none⟩ = some (.int .i64 at_) := BS.out.cell 1
        have kS_2 : x1.cell? ⟨s_, 2, none⟩ = some (.int .i64 lo) := BS.out.cell 2
        have kS_3 : x1.cell? ⟨s_, 3, none⟩ = some (.int .i64 hi) := BS.out.cell 3
        have kS_4 : x1.cell? ⟨s_, 4, none⟩ = some (.int .i64 pp) := BS.out.cell 4
        have kS_5 : x1.cell? ⟨s_, 5, none⟩ = some (.int .i64 le) := BS.out.cell 5
        have kS_6 : x1.cell? ⟨s_, 6, none⟩ = some (.int .i64 re) := BS.out.cell 6
        go_wp2_with fail
        refine (certV at_ lo hi pp le re _).mono ?_
        rintro e y3 ⟨rfl, hb⟩
        clear kS_0 kS_1 kS_2 kS_3 kS_4 kS_5 kS_6
        have hbx : Below x1.heap.size x1 y3 := below_via (by go_grown) hb (by first | (simp; done) | (simp; omega))
        have BS := Lib.hid (BS.out.stays hbx)
        have R4 := Lib.hid (R2.out.trans (hbx.mono hz_x1))
        have hz_y3 := R4.out.size
        clear hb hbx  R2 hz_x1
        have kS_0 : y3.cell? ⟨s_, 0, none⟩ = some (.int .i64 cn) := BS.out.cell 0
        have kS_1 : y3.cell? ⟨s_, 1, none⟩ = some (.int .i64 at_) := BS.out.cell 1
        have kS_2 : y3.cell? ⟨s_, 2, none⟩ = some (.int .i64 lo) := BS.out.cell 2
        have kS_3 : y3.cell? ⟨s_, 3, none⟩ = some (.int .i64 hi) := BS.out.cell 3
        have kS_4 : y3.cell? ⟨s_, 4, none⟩ = some (.int .i64 pp) := BS.out.cell 4
        have kS_5 : y3.cell? ⟨s_, 5, none⟩ = some (.int .i64 le) := BS.out.cell 5
        have kS_6 : y3.cell? ⟨s_, 6, none⟩ = some (.int .i64 re) := BS.out.cell 6
        rw [hk]
        go_wp2
        go_ret
        exact ⟨rfl, by first | exact R4.out | go_grown⟩
      · have hr : svE cn at_ lo hi pp le re = 4 := (if_pos hk).trans (if_neg (fun h => h2 h.2))
        rw [hr]
        clear hr
        have c2 : 1152921504606846976 < cn := by omega
        clear h2
        go_enter Try.func56, Try.ntmps56
        go_upto_region 1 with fail
        obtain ⟨x1, s_, ex1, es_⟩ : ∃ x1 s_, x1 = w.alloc (.cells #[.int .i64 cn, .int .i64 at_, .int .i64 lo, .int .i64 hi, .int .i64 pp, .int .i64 le, .int .i64 re] 41) ∧ s_ = w.heap.size := ⟨_, _, rfl, rfl⟩
        rw [← ex1, ← es_]
        have hbx : Below w.heap.size w x1 := by rw [ex1]; exact below_alloc1 _ _ 
        have g_S : w.heap.size ≤ s_ := by rw [es_]; exact Nat.le_refl _
        have BS := Lib.hid (show Blk x1 s_ 41 #[.int .i64 cn, .int .i64 at_, .int .i64 lo, .int .i64 hi, .int .i64 pp, .int .i64 le, .int .i64 re] by rw [ex1, es_]; exact blk_new1_0 _ _ _ )
        have R2 := Lib.hid hbx
        have hz_x1 := R2.out.size
        clear hbx ex1 es_
        have kS_0 : x1.cell? ⟨s_, 0, none⟩ = some (.int .i64 cn) := BS.out.cell 0
        have kS_1 : x1.cell? ⟨s_, 1, none⟩ = some (.int .i64 at_) := BS.out.cell 1
        have kS_2 : x1.cell? ⟨s_, 2, none⟩ = some (.int .i64 lo) := BS.out.cell 2
        have kS_3 : x1.cell? ⟨s_, 3, none⟩ = some (.int .i64 hi) := BS.out.cell 3
        have kS_4 : x1.cell? ⟨s_, 4, none⟩ = some (.int .i64 pp) := BS.out.cell 4
        have kS_5 : x1.cell? ⟨s_, 5, none⟩ = some (.int .i64 le) := BS.out.cell 5
        have kS_6 : x1.cell? ⟨s_, 6, none⟩ = some (.int .i64 re) := BS.out.cell 6
        go_wp2_with fail
        refine (certV at_ lo hi pp le re _).mono ?_
        rintro e y3 ⟨rfl, hb⟩
        clear kS_0 kS_1 kS_2 kS_3 kS_4 kS_5 kS_6
        have hbx : Below x1.heap.size x1 y3 := below_via (by go_grown) hb (by first | (simp; done) | (simp; omega))
        have BS := Lib.hid (BS.out.stays hbx)
        have R4 := Lib.hid (R2.out.trans (hbx.mono hz_x1))
        have hz_y3 := R4.out.size
        clear hb hbx  R2 hz_x1
        have kS_0 : y3.cell? ⟨s_, 0, none⟩ = some (.int .i64 cn) := BS.out.cell 0
        have kS_1 : y3.cell? ⟨s_, 1, none⟩ = some (.int .i64 at_) := BS.out.cell 1
        have kS_2 : y3.cell? ⟨s_, 2, none⟩ = some (.int .i64 lo) := BS.out.cell 2
        have kS_3 : y3.cell? ⟨s_, 3, none⟩ = some (.int .i64 hi) := BS.out.cell 3
        have kS_4 : y3.cell? ⟨s_, 4, none⟩ = some (.int .i64 pp) := BS.out.cell 4
        have kS_5 : y3.cell? ⟨s_, 5, none⟩ = some (.int .i64 le) := BS.out.cell 5
        have kS_6 : y3.cell? ⟨s_, 6, none⟩ = some (.int .i64 re) := BS.out.cell 6
        rw [hk]
        go_wp2
        go_ret
        exact ⟨rfl, by first | exact R4.out | go_grown⟩
    · have hr : svE cn at_ lo hi pp le re = 4 := (if_pos hk).trans (if_neg (fun h => h1 h.1))
      rw [hr]
      clear hr
      have c2 : cn < 0 := by omega
      clear h1
      go_enter Try.func56, Try.ntmps56
      go_upto_region 1 with fail
      obtain ⟨x1, s_, ex1, es_⟩ : ∃ x1 s_, x1 = w.alloc (.cells #[.int .i64 cn, .int .i64 at_, .int .i64 lo, .int .i64 hi, .int .i64 pp, .int .i64 le, .int .i64 re] 41) ∧ s_ = w.heap.size := ⟨_, _, rfl, rfl⟩
      rw [← ex1, ← es_]
      have hbx : Below w.heap.size w x1 := by rw [ex1]; exact below_alloc1 _ _ 
      have g_S : w.heap.size ≤ s_ := by rw [es_]; exact Nat.le_refl _
      have BS := Lib.hid (show Blk x1 s_ 41 #[.int .i64 cn, .int .i64 at_, .int .i64 lo, .int .i64 hi, .int .i64 pp, .int .i64 le, .int .i64 re] by rw [ex1, es_]; exact blk_new1_0 _ _ _ )
      have R2 := Lib.hid hbx
      have hz_x1 := R2.out.size
      clear hbx ex1 es_
      have kS_0 : x1.cell? ⟨s_, 0, none⟩ = some (.int .i64 cn) := BS.out.cell 0
      have kS_1 : x1.cell? ⟨s_, 1, none⟩ = some (.int .i64 at_) := BS.out.cell 1
      have kS_2 : x1.cell? ⟨s_, 2, none⟩ = some (.int .i64 lo) := BS.out.cell 2
      have kS_3 : x1.cell? ⟨s_, 3, none⟩ = some (.int .i64 hi) := BS.out.cell 3
      have kS_4 : x1.cell? ⟨s_, 4, none⟩ = some (.int .i64 pp) := BS.out.cell 4
      have kS_5 : x1.cell? ⟨s_, 5, none⟩ = some (.int .i64 le) := BS.out.cell 5
      have kS_6 : x1.cell? ⟨s_, 6, none⟩ = some (.int .i64 re) := BS.out.cell 6
      go_wp2_with fail
      refine (certV at_ lo hi pp le re _).mono ?_
      rintro e y3 ⟨rfl, hb⟩
      clear kS_0 kS_1 kS_2 kS_3 kS_4 kS_5 kS_6
      have hbx : Below x1.heap.size x1 y3 := below_via (by go_grown) hb (by first | (simp; done) | (simp; omega))
      have BS := Lib.hid (BS.out.stays hbx)
      have R4 := Lib.hid (R2.out.trans (hbx.mono hz_x1))
      have hz_y3 := R4.out.size
      clear hb hbx  R2 hz_x1
      have kS_0 : y3.cell? ⟨s_, 0, none⟩ = some (.int .i64 cn) := BS.out.cell 0
      have kS_1 : y3.cell? ⟨s_, 1, none⟩ = some (.int .i64 at_) := BS.out.cell 1
      have kS_2 : y3.cell? ⟨s_, 2, none⟩ = some (.int .i64 lo) := BS.out.cell 2
      have kS_3 : y3.cell? ⟨s_, 3, none⟩ = some (.int .i64 hi) := BS.out.cell 3
      have kS_4 : y3.cell? ⟨s_, 4, none⟩ = some (.int .i64 pp) := BS.out.cell 4
      have kS_5 : y3.cell? ⟨s_, 5, none⟩ = some (.int .i64 le) := BS.out.cell 5
      have kS_6 : y3.cell? ⟨s_, 6, none⟩ = some (.int .i64 re) := BS.out.cell 6
      rw [hk]
      go_wp2
      go_ret
      exact ⟨rfl, by first | exact R4.out | go_grown⟩
  · have hr : svE cn at_ lo hi pp le re = 3 := (if_neg (by rw [hk]; decide)).trans hk
    rw [hr]
    clear hr
    go_enter Try.func56, Try.ntmps56
    go_upto_region 1 with fail
    obtain ⟨x1, s_, ex1, es_⟩ : ∃ x1 s_, x1 = w.alloc (.cells #[.int .i64 cn, .int .i64 at_, .int .i64 lo, .int .i64 hi, .int .i64 pp, .int .i64 le, .int .i64 re] 41) ∧ s_ = w.heap.size := ⟨_, _, rfl, rfl⟩
    rw [← ex1, ← es_]
    have hbx : Below w.heap.size w x1 := by rw [ex1]; exact below_alloc1 _ _ 
    have g_S : w.heap.size ≤ s_ := by rw [es_]; exact Nat.le_refl _
    have BS := Lib.hid (show Blk x1 s_ 41 #[.int .i64 cn, .int .i64 at_, .int .i64 lo, .int .i64 hi, .int .i64 pp, .int .i64 le, .int .i64 re] by rw [ex1, es_]; exact blk_new1_0 _ _ _ )
    have R2 := Lib.hid hbx
    have hz_x1 := R2.out.size
    clear hbx ex1 es_
    have kS_0 : x1.cell? ⟨s_, 0, none⟩ = some (.int .i64 cn) := BS.out.cell 0
    have kS_1 : x1.cell? ⟨s_, 1, none⟩ = some (.int .i64 at_) := BS.out.cell 1
    have kS_2 : x1.cell? ⟨s_, 2, none⟩ = some (.int .i64 lo) := BS.out.cell 2
    have kS_3 : x1.cell? ⟨s_, 3, none⟩ = some (.int .i64 hi) := BS.out.cell 3
    have kS_4 : x1.cell? ⟨s_, 4, none⟩ = some (.int .i64 pp) := BS.out.cell 4
    have kS_5 : x1.cell? ⟨s_, 5, none⟩ = some (.int .i64 le) := BS.out.cell 5
    have kS_6 : x1.cell? ⟨s_, 6, none⟩ = some (.int .i64 re) := BS.out.cell 6
    go_wp2_with fail
    refine (certV at_ lo hi pp le re _).mono ?_
    rintro e y3 ⟨rfl, hb⟩
    clear kS_0 kS_1 kS_2 kS_3 kS_4 kS_5 kS_6
    have hbx : Below x1.heap.size x1 y3 := below_via (by go_grown) hb (by first | (simp; done) | (simp; omega))
    have BS := Lib.hid (BS.out.stays hbx)
    have R4 := Lib.hid (R2.out.trans (hbx.mono hz_x1))
    have hz_y3 := R4.out.size
    clear hb hbx  R2 hz_x1
    have kS_0 : y3.cell? ⟨s_, 0, none⟩ = some (.int .i64 cn) := BS.out.cell 0
    have kS_1 : y3.cell? ⟨s_, 1, none⟩ = some (.int .i64 at_) := BS.out.cell 1
    have kS_2 : y3.cell? ⟨s_, 2, none⟩ = some (.int .i64 lo) := BS.out.cell 2
    have kS_3 : y3.cell? ⟨s_, 3, none⟩ = some (.int .i64 hi) := BS.out.cell 3
    have kS_4 : y3.cell? ⟨s_, 4, none⟩ = some (.int .i64 pp) := BS.out.cell 4
    have kS_5 : y3.cell? ⟨s_, 5, none⟩ = some (.int .i64 le) := BS.out.cell 5
    have kS_6 : y3.cell? ⟨s_, 6, none⟩ = some (.int .i64 re) := BS.out.cell 6
    rw [hk]
    go_wp2
    go_ret
    exact ⟨rfl, by first | exact R4.out | go_grown⟩
  · have hr : svE cn at_ lo hi pp le re = 4 := (if_neg (by rw [hk]; decide)).trans hk
    rw [hr]
    clear hr
    go_enter Try.func56, Try.ntmps56
    go_upto_region 1 with fail
    obtain ⟨x1, s_, ex1, es_⟩ : ∃ x1 s_, x1 = w.alloc (.cells #[.int .i64 cn, .int .i64 at_, .int .i64 lo, .int .i64 hi, .int .i64 pp, .int .i64 le, .int .i64 re] 41) ∧ s_ = w.heap.size := ⟨_, _, rfl, rfl⟩
    rw [← ex1, ← es_]
    have hbx : Below w.heap.size w x1 := by rw [ex1]; exact below_alloc1 _ _ 
    have g_S : w.heap.size ≤ s_ := by rw [es_]; exact Nat.le_refl _
    have BS := Lib.hid (show Blk x1 s_ 41 #[.int .i64 cn, .int .i64 at_, .int .i64 lo, .int .i64 hi, .int .i64 pp, .int .i64 le, .int .i64 re] by rw [ex1, es_]; exact blk_new1_0 _ _ _ )
    have R2 := Lib.hid hbx
    have hz_x1 := R2.out.size
    clear hbx ex1 es_
    have kS_0 : x1.cell? ⟨s_, 0, none⟩ = some (.int .i64 cn) := BS.out.cell 0
    have kS_1 : x1.cell? ⟨s_, 1, none⟩ = some (.int .i64 at_) := BS.out.cell 1
    have kS_2 : x1.cell? ⟨s_, 2, none⟩ = some (.int .i64 lo) := BS.out.cell 2
    have kS_3 : x1.cell? ⟨s_, 3, none⟩ = some (.int .i64 hi) := BS.out.cell 3
    have kS_4 : x1.cell? ⟨s_, 4, none⟩ = some (.int .i64 pp) := BS.out.cell 4
    have kS_5 : x1.cell? ⟨s_, 5, none⟩ = some (.int .i64 le) := BS.out.cell 5
    have kS_6 : x1.cell? ⟨s_, 6, none⟩ = some (.int .i64 re) := BS.out.cell 6
    go_wp2_with fail
    refine (certV at_ lo hi pp le re _).mono ?_
    rintro e y3 ⟨rfl, hb⟩
    clear kS_0 kS_1 kS_2 kS_3 kS_4 kS_5 kS_6
    have hbx : Below x1.heap.size x1 y3 := below_via (by go_grown) hb (by first | (simp; done) | (simp; omega))
    have BS := Lib.hid (BS.out.stays hbx)
    have R4 := Lib.hid (R2.out.trans (hbx.mono hz_x1))
    have hz_y3 := R4.out.size
    clear hb hbx  R2 hz_x1
    have kS_0 : y3.cell? ⟨s_, 0, none⟩ = some (.int .i64 cn) := BS.out.cell 0
    have kS_1 : y3.cell? ⟨s_, 1, none⟩ = some (.int .i64 at_) := BS.out.cell 1
    have kS_2 : y3.cell? ⟨s_, 2, none⟩ = some (.int .i64 lo) := BS.out.cell 2
    have kS_3 : y3.cell? ⟨s_, 3, none⟩ = some (.int .i64 hi) := BS.out.cell 3
    have kS_4 : y3.cell? ⟨s_, 4, none⟩ = some (.int .i64 pp) := BS.out.cell 4
    have kS_5 : y3.cell? ⟨s_, 5, none⟩ = some (.int .i64 le) := BS.out.cell 5
    have kS_6 : y3.cell? ⟨s_, 6, none⟩ = some (.int .i64 re) := BS.out.cell 6
    rw [hk]
    go_wp2
    go_ret
    exact ⟨rfl, by first | exact R4.out | go_grown⟩
set_option maxRecDepth 100000 in
set_option maxHeartbeats 4000000 in
theorem refSavedV (cn at_ lo hi pp le re : Int) (w : World) : Calls Try.prog 58 #[.agg #[.int .i64 cn, .int .i64 at_, .int .i64 lo, .int .i64 hi, .int .i64 pp, .int .i64 le, .int .i64 re]] w fun e w' => e = .returned (.int .i64 (svE cn at_ lo hi pp le re)) ∧ Below w.heap.size w w' := by
  rcases knE_cases at_ lo hi pp le re with hk | hk | hk
  · by_cases h1 : 0 ≤ cn
    · by_cases h2 : cn ≤ 1152921504606846976
      · have hr : svE cn at_ lo hi pp le re = 0 := (if_pos hk).trans (if_pos ⟨h1, h2⟩)
        rw [hr]
        clear hr
        go_enter Try.func58, Try.ntmps58
        go_upto_region 1 with fail
        obtain ⟨x1, s_, ex1, es_⟩ : ∃ x1 s_, x1 = w.alloc (.cells #[.int .i64 cn, .int .i64 at_, .int .i64 lo, .int .i64 hi, .int .i64 pp, .int .i64 le, .int .i64 re] 41) ∧ s_ = w.heap.size := ⟨_, _, rfl, rfl⟩
        rw [← ex1, ← es_]
        have hbx : Below w.heap.size w x1 := by rw [ex1]; exact below_alloc1 _ _ 
        have g_S : w.heap.size ≤ s_ := by rw [es_]; exact Nat.le_refl _
        have BS := Lib.hid (show Blk x1 s_ 41 #[.int .i64 cn, .int .i64 at_, .int .i64 lo, .int .i64 hi, .int .i64 pp, .int .i64 le, .int .i64 re] by rw [ex1, es_]; exact blk_new1_0 _ _ _ )
        have R2 := Lib.hid hbx
        have hz_x1 := R2.out.size
        clear hbx ex1 es_
        have kS_0 : x1.cell? ⟨s_, 0, none⟩ = some (.int .i64 cn) := BS.out.cell 0
        have kS_1 : x1.cell? ⟨s_, 1, none⟩ = some (.int .i64 at_) := BS.out.cell 1
        have kS_2 : x1.cell? ⟨s_, 2, none⟩ = some (.int .i64 lo) := BS.out.cell 2
        have kS_3 : x1.cell? ⟨s_, 3, none⟩ = some (.int .i64 hi) := BS.out.cell 3
        have kS_4 : x1.cell? ⟨s_, 4, none⟩ = some (.int .i64 pp) := BS.out.cell 4
        have kS_5 : x1.cell? ⟨s_, 5, none⟩ = some (.int .i64 le) := BS.out.cell 5
        have kS_6 : x1.cell? ⟨s_, 6, none⟩ = some (.int .i64 re) := BS.out.cell 6
        go_wp2_with fail
        refine (refKnownV at_ lo hi pp le re _).mono ?_
        rintro e y3 ⟨rfl, hb⟩
        clear kS_0 kS_1 kS_2 kS_3 kS_4 kS_5 kS_6
        have hbx : Below x1.heap.size x1 y3 := below_via (by go_grown) hb (by first | (simp; done) | (simp; omega))
        have BS := Lib.hid (BS.out.stays hbx)
        have R4 := Lib.hid (R2.out.trans (hbx.mono hz_x1))
        have hz_y3 := R4.out.size
        clear hb hbx  R2 hz_x1
        have kS_0 : y3.cell? ⟨s_, 0, none⟩ = some (.int .i64 cn) := BS.out.cell 0
        have kS_1 : y3.cell? ⟨s_, 1, none⟩ = some (.int .i64 at_) := BS.out.cell 1
        have kS_2 : y3.cell? ⟨s_, 2, none⟩ = some (.int .i64 lo) := BS.out.cell 2
        have kS_3 : y3.cell? ⟨s_, 3, none⟩ = some (.int .i64 hi) := BS.out.cell 3
        have kS_4 : y3.cell? ⟨s_, 4, none⟩ = some (.int .i64 pp) := BS.out.cell 4
        have kS_5 : y3.cell? ⟨s_, 5, none⟩ = some (.int .i64 le) := BS.out.cell 5
        have kS_6 : y3.cell? ⟨s_, 6, none⟩ = some (.int .i64 re) := BS.out.cell 6
        rw [hk]
        go_wp2
        go_ret
        exact ⟨rfl, by first | exact R4.out | go_grown⟩
      · have hr : svE cn at_ lo hi pp le re = 4 := (if_pos hk).trans (if_neg (fun h => h2 h.2))
        rw [hr]
        clear hr
        have c2 : 1152921504606846976 < cn := by omega
        clear h2
        go_enter Try.func58, Try.ntmps58
        go_upto_region 1 with fail
        obtain ⟨x1, s_, ex1, es_⟩ : ∃ x1 s_, x1 = w.alloc (.cells #[.int .i64 cn, .int .i64 at_, .int .i64 lo, .int .i64 hi, .int .i64 pp, .int .i64 le, .int .i64 re] 41) ∧ s_ = w.heap.size := ⟨_, _, rfl, rfl⟩
        rw [← ex1, ← es_]
        have hbx : Below w.heap.size w x1 := by rw [ex1]; exact below_alloc1 _ _ 
        have g_S : w.heap.size ≤ s_ := by rw [es_]; exact Nat.le_refl _
        have BS := Lib.hid (show Blk x1 s_ 41 #[.int .i64 cn, .int .i64 at_, .int .i64 lo, .int .i64 hi, .int .i64 pp, .int .i64 le, .int .i64 re] by rw [ex1, es_]; exact blk_new1_0 _ _ _ )
        have R2 := Lib.hid hbx
        have hz_x1 := R2.out.size
        clear hbx ex1 es_
        have kS_0 : x1.cell? ⟨s_, 0, none⟩ = some (.int .i64 cn) := BS.out.cell 0
        have kS_1 : x1.cell? ⟨s_, 1, none⟩ = some (.int .i64 at_) := BS.out.cell 1
        have kS_2 : x1.cell? ⟨s_, 2, none⟩ = some (.int .i64 lo) := BS.out.cell 2
        have kS_3 : x1.cell? ⟨s_, 3, none⟩ = some (.int .i64 hi) := BS.out.cell 3
        have kS_4 : x1.cell? ⟨s_, 4, none⟩ = some (.int .i64 pp) := BS.out.cell 4
        have kS_5 : x1.cell? ⟨s_, 5, none⟩ = some (.int .i64 le) := BS.out.cell 5
        have kS_6 : x1.cell? ⟨s_, 6, none⟩ = some (.int .i64 re) := BS.out.cell 6
        go_wp2_with fail
        refine (refKnownV at_ lo hi pp le re _).mono ?_
        rintro e y3 ⟨rfl, hb⟩
        clear kS_0 kS_1 kS_2 kS_3 kS_4 kS_5 kS_6
        have hbx : Below x1.heap.size x1 y3 := below_via (by go_grown) hb (by first | (simp; done) | (simp; omega))
        have BS := Lib.hid (BS.out.stays hbx)
        have R4 := Lib.hid (R2.out.trans (hbx.mono hz_x1))
        have hz_y3 := R4.out.size
        clear hb hbx  R2 hz_x1
        have kS_0 : y3.cell? ⟨s_, 0, none⟩ = some (.int .i64 cn) := BS.out.cell 0
        have kS_1 : y3.cell? ⟨s_, 1, none⟩ = some (.int .i64 at_) := BS.out.cell 1
        have kS_2 : y3.cell? ⟨s_, 2, none⟩ = some (.int .i64 lo) := BS.out.cell 2
        have kS_3 : y3.cell? ⟨s_, 3, none⟩ = some (.int .i64 hi) := BS.out.cell 3
        have kS_4 : y3.cell? ⟨s_, 4, none⟩ = some (.int .i64 pp) := BS.out.cell 4
        have kS_5 : y3.cell? ⟨s_, 5, none⟩ = some (.int .i64 le) := BS.out.cell 5
        have kS_6 : y3.cell? ⟨s_, 6, none⟩ = some (.int .i64 re) := BS.out.cell 6
        rw [hk]
        go_wp2
        go_ret
        exact ⟨rfl, by first | exact R4.out | go_grown⟩
    · have hr : svE cn at_ lo hi pp le re = 4 := (if_pos hk).trans (if_neg (fun h => h1 h.1))
      rw [hr]
      clear hr
      have c2 : cn < 0 := by omega
      clear h1
      go_enter Try.func58, Try.ntmps58
      go_upto_region 1 with fail
      obtain ⟨x1, s_, ex1, es_⟩ : ∃ x1 s_, x1 = w.alloc (.cells #[.int .i64 cn, .int .i64 at_, .int .i64 lo, .int .i64 hi, .int .i64 pp, .int .i64 le, .int .i64 re] 41) ∧ s_ = w.heap.size := ⟨_, _, rfl, rfl⟩
      rw [← ex1, ← es_]
      have hbx : Below w.heap.size w x1 := by rw [ex1]; exact below_alloc1 _ _ 
      have g_S : w.heap.size ≤ s_ := by rw [es_]; exact Nat.le_refl _
      have BS := Lib.hid (show Blk x1 s_ 41 #[.int .i64 cn, .int .i64 at_, .int .i64 lo, .int .i64 hi, .int .i64 pp, .int .i64 le, .int .i64 re] by rw [ex1, es_]; exact blk_new1_0 _ _ _ )
      have R2 := Lib.hid hbx
      have hz_x1 := R2.out.size
      clear hbx ex1 es_
      have kS_0 : x1.cell? ⟨s_, 0, none⟩ = some (.int .i64 cn) := BS.out.cell 0
      have kS_1 : x1.cell? ⟨s_, 1, none⟩ = some (.int .i64 at_) := BS.out.cell 1
      have kS_2 : x1.cell? ⟨s_, 2, none⟩ = some (.int .i64 lo) := BS.out.cell 2
      have kS_3 : x1.cell? ⟨s_, 3, none⟩ = some (.int .i64 hi) := BS.out.cell 3
      have kS_4 : x1.cell? ⟨s_, 4, none⟩ = some (.int .i64 pp) := BS.out.cell 4
      have kS_5 : x1.cell? ⟨s_, 5, none⟩ = some (.int .i64 le) := BS.out.cell 5
      have kS_6 : x1.cell? ⟨s_, 6, none⟩ = some (.int .i64 re) := BS.out.cell 6
      go_wp2_with fail
      refine (refKnownV at_ lo hi pp le re _).mono ?_
      rintro e y3 ⟨rfl, hb⟩
      clear kS_0 kS_1 kS_2 kS_3 kS_4 kS_5 kS_6
      have hbx : Below x1.heap.size x1 y3 := below_via (by go_grown) hb (by first | (simp; done) | (simp; omega))
      have BS := Lib.hid (BS.out.stays hbx)
      have R4 := Lib.hid (R2.out.trans (hbx.mono hz_x1))
      have hz_y3 := R4.out.size
      clear hb hbx  R2 hz_x1
      have kS_0 : y3.cell? ⟨s_, 0, none⟩ = some (.int .i64 cn) := BS.out.cell 0
      have kS_1 : y3.cell? ⟨s_, 1, none⟩ = some (.int .i64 at_) := BS.out.cell 1
      have kS_2 : y3.cell? ⟨s_, 2, none⟩ = some (.int .i64 lo) := BS.out.cell 2
      have kS_3 : y3.cell? ⟨s_, 3, none⟩ = some (.int .i64 hi) := BS.out.cell 3
      have kS_4 : y3.cell? ⟨s_, 4, none⟩ = some (.int .i64 pp) := BS.out.cell 4
      have kS_5 : y3.cell? ⟨s_, 5, none⟩ = some (.int .i64 le) := BS.out.cell 5
      have kS_6 : y3.cell? ⟨s_, 6, none⟩ = some (.int .i64 re) := BS.out.cell 6
      rw [hk]
      go_wp2
      go_ret
      exact ⟨rfl, by first | exact R4.out | go_grown⟩
  · have hr : svE cn at_ lo hi pp le re = 3 := (if_neg (by rw [hk]; decide)).trans hk
    rw [hr]
    clear hr
    go_enter Try.func58, Try.ntmps58
    go_upto_region 1 with fail
    obtain ⟨x1, s_, ex1, es_⟩ : ∃ x1 s_, x1 = w.alloc (.cells #[.int .i64 cn, .int .i64 at_, .int .i64 lo, .int .i64 hi, .int .i64 pp, .int .i64 le, .int .i64 re] 41) ∧ s_ = w.heap.size := ⟨_, _, rfl, rfl⟩
    rw [← ex1, ← es_]
    have hbx : Below w.heap.size w x1 := by rw [ex1]; exact below_alloc1 _ _ 
    have g_S : w.heap.size ≤ s_ := by rw [es_]; exact Nat.le_refl _
    have BS := Lib.hid (show Blk x1 s_ 41 #[.int .i64 cn, .int .i64 at_, .int .i64 lo, .int .i64 hi, .int .i64 pp, .int .i64 le, .int .i64 re] by rw [ex1, es_]; exact blk_new1_0 _ _ _ )
    have R2 := Lib.hid hbx
    have hz_x1 := R2.out.size
    clear hbx ex1 es_
    have kS_0 : x1.cell? ⟨s_, 0, none⟩ = some (.int .i64 cn) := BS.out.cell 0
    have kS_1 : x1.cell? ⟨s_, 1, none⟩ = some (.int .i64 at_) := BS.out.cell 1
    have kS_2 : x1.cell? ⟨s_, 2, none⟩ = some (.int .i64 lo) := BS.out.cell 2
    have kS_3 : x1.cell? ⟨s_, 3, none⟩ = some (.int .i64 hi) := BS.out.cell 3
    have kS_4 : x1.cell? ⟨s_, 4, none⟩ = some (.int .i64 pp) := BS.out.cell 4
    have kS_5 : x1.cell? ⟨s_, 5, none⟩ = some (.int .i64 le) := BS.out.cell 5
    have kS_6 : x1.cell? ⟨s_, 6, none⟩ = some (.int .i64 re) := BS.out.cell 6
    go_wp2_with fail
    refine (refKnownV at_ lo hi pp le re _).mono ?_
    rintro e y3 ⟨rfl, hb⟩
    clear kS_0 kS_1 kS_2 kS_3 kS_4 kS_5 kS_6
    have hbx : Below x1.heap.size x1 y3 := below_via (by go_grown) hb (by first | (simp; done) | (simp; omega))
    have BS := Lib.hid (BS.out.stays hbx)
    have R4 := Lib.hid (R2.out.trans (hbx.mono hz_x1))
    have hz_y3 := R4.out.size
    clear hb hbx  R2 hz_x1
    have kS_0 : y3.cell? ⟨s_, 0, none⟩ = some (.int .i64 cn) := BS.out.cell 0
    have kS_1 : y3.cell? ⟨s_, 1, none⟩ = some (.int .i64 at_) := BS.out.cell 1
    have kS_2 : y3.cell? ⟨s_, 2, none⟩ = some (.int .i64 lo) := BS.out.cell 2
    have kS_3 : y3.cell? ⟨s_, 3, none⟩ = some (.int .i64 hi) := BS.out.cell 3
    have kS_4 : y3.cell? ⟨s_, 4, none⟩ = some (.int .i64 pp) := BS.out.cell 4
    have kS_5 : y3.cell? ⟨s_, 5, none⟩ = some (.int .i64 le) := BS.out.cell 5
    have kS_6 : y3.cell? ⟨s_, 6, none⟩ = some (.int .i64 re) := BS.out.cell 6
    rw [hk]
    go_wp2
    go_ret
    exact ⟨rfl, by first | exact R4.out | go_grown⟩
  · have hr : svE cn at_ lo hi pp le re = 4 := (if_neg (by rw [hk]; decide)).trans hk
    rw [hr]
    clear hr
    go_enter Try.func58, Try.ntmps58
    go_upto_region 1 with fail
    obtain ⟨x1, s_, ex1, es_⟩ : ∃ x1 s_, x1 = w.alloc (.cells #[.int .i64 cn, .int .i64 at_, .int .i64 lo, .int .i64 hi, .int .i64 pp, .int .i64 le, .int .i64 re] 41) ∧ s_ = w.heap.size := ⟨_, _, rfl, rfl⟩
    rw [← ex1, ← es_]
    have hbx : Below w.heap.size w x1 := by rw [ex1]; exact below_alloc1 _ _ 
    have g_S : w.heap.size ≤ s_ := by rw [es_]; exact Nat.le_refl _
    have BS := Lib.hid (show Blk x1 s_ 41 #[.int .i64 cn, .int .i64 at_, .int .i64 lo, .int .i64 hi, .int .i64 pp, .int .i64 le, .int .i64 re] by rw [ex1, es_]; exact blk_new1_0 _ _ _ )
    have R2 := Lib.hid hbx
    have hz_x1 := R2.out.size
    clear hbx ex1 es_
    have kS_0 : x1.cell? ⟨s_, 0, none⟩ = some (.int .i64 cn) := BS.out.cell 0
    have kS_1 : x1.cell? ⟨s_, 1, none⟩ = some (.int .i64 at_) := BS.out.cell 1
    have kS_2 : x1.cell? ⟨s_, 2, none⟩ = some (.int .i64 lo) := BS.out.cell 2
    have kS_3 : x1.cell? ⟨s_, 3, none⟩ = some (.int .i64 hi) := BS.out.cell 3
    have kS_4 : x1.cell? ⟨s_, 4, none⟩ = some (.int .i64 pp) := BS.out.cell 4
    have kS_5 : x1.cell? ⟨s_, 5, none⟩ = some (.int .i64 le) := BS.out.cell 5
    have kS_6 : x1.cell? ⟨s_, 6, none⟩ = some (.int .i64 re) := BS.out.cell 6
    go_wp2_with fail
    refine (refKnownV at_ lo hi pp le re _).mono ?_
    rintro e y3 ⟨rfl, hb⟩
    clear kS_0 kS_1 kS_2 kS_3 kS_4 kS_5 kS_6
    have hbx : Below x1.heap.size x1 y3 := below_via (by go_grown) hb (by first | (simp; done) | (simp; omega))
    have BS := Lib.hid (BS.out.stays hbx)
    have R4 := Lib.hid (R2.out.trans (hbx.mono hz_x1))
    have hz_y3 := R4.out.size
    clear hb hbx  R2 hz_x1
    have kS_0 : y3.cell? ⟨s_, 0, none⟩ = some (.int .i64 cn) := BS.out.cell 0
    have kS_1 : y3.cell? ⟨s_, 1, none⟩ = some (.int .i64 at_) := BS.out.cell 1
    have kS_2 : y3.cell? ⟨s_, 2, none⟩ = some (.int .i64 lo) := BS.out.cell 2
    have kS_3 : y3.cell? ⟨s_, 3, none⟩ = some (.int .i64 hi) := BS.out.cell 3
    have kS_4 : y3.cell? ⟨s_, 4, none⟩ = some (.int .i64 pp) := BS.out.cell 4
    have kS_5 : y3.cell? ⟨s_, 5, none⟩ = some (.int .i64 le) := BS.out.cell 5
    have kS_6 : y3.cell? ⟨s_, 6, none⟩ = some (.int .i64 re) := BS.out.cell 6
    rw [hk]
    go_wp2
    go_ret
    exact ⟨rfl, by first | exact R4.out | go_grown⟩
end Go.Proofs.Ytbjmojajhkhekaa
