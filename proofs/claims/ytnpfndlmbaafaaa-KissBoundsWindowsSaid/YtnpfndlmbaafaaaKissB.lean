import Derived.Test.YtnpfndlmbaafaaaKissA
import Derived.Test.YtnpfndlmbaafaaaIdx
import Derived.Test.YtnpfndlmbaafaaaGet
import Derived.Test.YtnpfndlmbaafaaaPut
namespace Go.Proofs.Ytnpfndlmbaafaaa
open Go.RowKit

set_option maxHeartbeats 1000000 in
theorem kissWait_yes (paid every burst now : Int) (h1 : 1 ≤ every) (h2 : every ≤ 1000) (h3 : 1 ≤ burst) (h4 : burst ≤ 64)
    (h5 : -1000000 ≤ now) (h6 : now ≤ 1000000) (h7 : -1000000 ≤ paid) (h8 : paid ≤ 1000000) (w : World) :
    Calls Try.prog 24 #[.agg #[.int .i64 paid], .agg #[.int .i64 every, .int .i64 burst], .int .i64 now] w fun e w' =>
      e = .returned (.tuple #[.int .i64 (max 0 (paid - now - (burst - 1) * every)), .int .i64 0]) ∧ Below w.heap.size w w' := by
  have hp1 : 0 ≤ (burst - 1) * every := Int.mul_nonneg (by omega) (by omega)
  have hp2 : (burst - 1) * every ≤ 63 * 1000 := Int.mul_le_mul (by omega) h2 (by omega) (by omega)
  go_enter Try.func24, Try.ntmps24
  go_wp2_with fail
  refine (kissValid_yes _ _ _ _ h1 (by omega) h3 h4 (by omega) (by omega) (by omega) (by omega) _).mono ?_
  rintro e w' ⟨rfl, hb⟩
  obtain ⟨hc, hf, hz⟩ := below_reads hb
  go_wp2
  all_goals
    go_ret2
    refine ⟨by simp; omega, ((((Below.refl _ _).alloc (Nat.le_refl _) _).alloc (by simp) _).trans (hb.mono (by simp; omega)))⟩

/-- What Allow does with a rule that holds. -/
theorem kissAllow_yes (paid every burst now : Int) (h1 : 1 ≤ every) (h2 : every ≤ 1000) (h3 : 1 ≤ burst) (h4 : burst ≤ 64)
    (h5 : -1000000 ≤ now) (h6 : now ≤ 1000000) (h7 : -1000000 ≤ paid) (h8 : paid ≤ 1000000) (hok : paid - now - (burst - 1) * every ≤ 0) (w : World) :
    Calls Try.prog 25 #[.agg #[.int .i64 paid], .agg #[.int .i64 every, .int .i64 burst], .int .i64 now] w fun e w' =>
      e = .returned (.tuple #[.agg #[.int .i64 (max paid now + every)], .bool true, .int .i64 0]) ∧ Below w.heap.size w w' := by
  have hp1 : 0 ≤ (burst - 1) * every := Int.mul_nonneg (by omega) (by omega)
  have hp2 : (burst - 1) * every ≤ 63 * 1000 := Int.mul_le_mul (by omega) h2 (by omega) (by omega)
  have hm1 : max 0 (paid - now - (burst - 1) * every) = 0 := by omega
  have C := Lib.hid (fun W => kissWait_yes paid every burst now h1 h2 h3 h4 h5 h6 h7 h8 W)
  rw [hm1] at C
  clear hm1
  go_enter Try.func25, Try.ntmps25
  go_wp2_with fail
  refine (C.out _).mono ?_
  rintro e w' ⟨rfl, hb⟩
  obtain ⟨hc, hf, hz⟩ := below_reads hb
  have hbw := below_via (B := w.heap.size) (w := w) (by go_grown) hb (by simp; omega)
  clear hb
  have q : ∀ u, (w'.setCell ⟨w.heap.size + 1 + 1, 0, none⟩ u).cell? ⟨w.heap.size + 1 + 1, 0, none⟩ = some u := fun u => World.cell?_setCell_same _ _ _ (u := .int .i64 0) (by rw [hc _ _ (by simp)]; go_simp)
  go_wp2_with fail
  all_goals
    refine (ticksValid_yes _ (by omega) (by omega) _).mono ?_
    rintro e w'' ⟨rfl, rfl⟩
    go_wp2
    refine bodyPost_ret (v := .tuple #[.agg #[.int .i64 (max paid now + every)], .bool true, .int .i64 0]) (by simp [results, Try.results25, go_sem, q]; omega) rfl ⟨rfl, by go_grown⟩
/-- What Allow does when the question comes too early. -/
theorem kissAllow_no (paid every burst now : Int) (h1 : 1 ≤ every) (h2 : every ≤ 1000) (h3 : 1 ≤ burst) (h4 : burst ≤ 64)
    (h5 : -1000000 ≤ now) (h6 : now ≤ 1000000) (h7 : -1000000 ≤ paid) (h8 : paid ≤ 1000000) (hno : 0 < paid - now - (burst - 1) * every) (w : World) :
    Calls Try.prog 25 #[.agg #[.int .i64 paid], .agg #[.int .i64 every, .int .i64 burst], .int .i64 now] w fun e w' =>
      e = .returned (.tuple #[.agg #[.int .i64 paid], .bool false, .int .i64 0]) ∧ Below w.heap.size w w' := by
  have hp1 : 0 ≤ (burst - 1) * every := Int.mul_nonneg (by omega) (by omega)
  have hp2 : (burst - 1) * every ≤ 63 * 1000 := Int.mul_le_mul (by omega) h2 (by omega) (by omega)
  have hm1 : max 0 (paid - now - (burst - 1) * every) = paid - now - (burst - 1) * every := by omega
  have C := Lib.hid (fun W => kissWait_yes paid every burst now h1 h2 h3 h4 h5 h6 h7 h8 W)
  rw [hm1] at C
  clear hm1
  go_enter Try.func25, Try.ntmps25
  go_wp2_with fail
  refine (C.out _).mono ?_
  rintro e w' ⟨rfl, hb⟩
  obtain ⟨hc, hf, hz⟩ := below_reads hb
  have hbw := below_via (B := w.heap.size) (w := w) (by go_grown) hb (by simp; omega)
  clear hb
  have q : ∀ u, (w'.setCell ⟨w.heap.size + 1 + 1, 0, none⟩ u).cell? ⟨w.heap.size + 1 + 1, 0, none⟩ = some u := fun u => World.cell?_setCell_same _ _ _ (u := .int .i64 0) (by rw [hc _ _ (by simp)]; go_simp)
  go_wp2
  refine bodyPost_ret (v := .tuple #[.agg #[.int .i64 paid], .bool false, .int .i64 0]) (by simp [results, Try.results25, go_sem, q]) rfl ⟨rfl, by go_grown⟩

end Go.Proofs.Ytnpfndlmbaafaaa
