import Derived.Test.YtahphlcahaheiaaBase
namespace Go.Proofs.Ytahphlcahaheiaa
open Go.RowKit

theorem infoByte : (Try.prog.info? 5).map (fun i => (i.zero, i.size, i.bytes)) = some (some (.int .u8 0), 1, 1) := by kernel_rfl

theorem make_bytes (n : Nat) (hn : n ≤ 1000000) (w : World) : (Instr.makeSlice 22 (.int .i64 n) (.int .i64 n)).run Try.prog w =
    .ok (.slice (some ⟨w.heap.size, 0, none⟩) n n) (w.alloc (.cells (madeCells #[.int .u8 0] n) 5)) := by
  obtain ⟨i0, hi, hz0, hz1, hz2⟩ := info_parts infoByte
  have := run_make (P := Try.prog) w 22 5 i0 (.int .u8 0) Try.underlying22 hi hz0 .i64 .i64 n n (by omega) (by omega) (by rw [hz2]; omega) (by omega)
  simpa [hz1, Value.cells] using this

set_option maxRecDepth 100000 in
set_option maxHeartbeats 400000 in
theorem put_any (v n : Nat) (hn : n ≤ 64) (w : World) :
    Calls Try.prog 84 #[.int .u64 v, .int .i64 n] w fun e w' => e = .returned (.slice (some ⟨w.heap.size, 0, none⟩) n n) ∧ w' = w.alloc (.cells ((putL v n).map byteV).toArray 5) := by
  have hmk := make_bytes n (by omega) w
  rw [putArr_zero v n] at hmk
  go_enter Try.func84, Try.ntmps84
  go_wp2
  clear hmk
  go_loopw [0, 6] (fun x i wr => ∃ j : Nat, j ≤ n ∧ i = .int .i64 ((n : Int) - 1 - j) ∧ x = .int .u64 (shB v j) ∧ wr = w.alloc (.cells (putArr v n j) 5)) (fun _ i _ => (intOf i + 1).toNat)
  case atStart => exact ⟨0, Nat.zero_le _, by simp, by rw [shB_zero], rfl⟩
  case round =>
    obtain ⟨j, hj, rfl, rfl, rfl⟩ := hrel
    have hle := shB_le v j
    by_cases hjk : j < n
    · have hat := putArr_at v n j hjk
      by_cases hz : 0 < shB v j
      · go_wp2
        go_roundw
        case rel => exact ⟨j + 1, by omega, by congr 1; omega, by rw [shB_succ]; rfl, by rw [putArr_set v n j hjk]⟩
        case measure => simp [intOf]; omega
      · go_wp2
        go_ret
        exact ⟨rfl, by rw [putArr_end v n j hj (.inr (by omega))]⟩
    · obtain rfl : j = n := by omega
      go_wp2
      go_ret
      exact ⟨rfl, by rw [putArr_end v j j hj (.inl rfl)]⟩

set_option maxRecDepth 100000 in
set_option maxHeartbeats 400000 in
theorem refPut_any (v n : Nat) (hn : n ≤ 64) (w : World) :
    Calls Try.prog 57 #[.int .u64 v, .int .i64 n] w fun e w' => e = .returned (.slice (some ⟨w.heap.size, 0, none⟩) n n) ∧ w' = w.alloc (.cells ((putL v n).map byteV).toArray 5) := by
  have hmk := make_bytes n (by omega) w
  rw [putArr_zero v n] at hmk
  go_enter Try.func57, Try.ntmps57
  go_wp2
  clear hmk
  go_loopw [0, 6] (fun x i wr => ∃ j : Nat, j ≤ n ∧ i = .int .i64 ((n : Int) - 1 - j) ∧ x = .int .u64 (shB v j) ∧ wr = w.alloc (.cells (putArr v n j) 5)) (fun _ i _ => (intOf i + 1).toNat)
  case atStart => exact ⟨0, Nat.zero_le _, by simp, by rw [shB_zero], rfl⟩
  case round =>
    obtain ⟨j, hj, rfl, rfl, rfl⟩ := hrel
    have hle := shB_le v j
    by_cases hjk : j < n
    · have hat := putArr_at v n j hjk
      go_wp2
      go_roundw
      case rel => exact ⟨j + 1, by omega, by congr 1; omega, by rw [shB_succ]; rfl, by rw [putArr_set v n j hjk]⟩
      case measure => simp [intOf]; omega
    · obtain rfl : j = n := by omega
      go_wp2
      go_ret
      exact ⟨rfl, by rw [putArr_end v j j hj (.inl rfl)]⟩
/-- The same, the new row without its place. -/
theorem put_reads (v n : Nat) (hn : n ≤ 64) (w : World) :
    Calls Try.prog 84 #[.int .u64 v, .int .i64 n] w fun e w' => ∃ A c, e = .returned (.slice A n c) ∧ Bytes w' A n c (putL v n) ∧ Below w.heap.size w w' := by
  refine (put_any v n hn w).mono fun e w' h => ?_
  obtain ⟨rfl, rfl⟩ := h
  have := Bytes.made (w := w) (l := putL v n) (E := 5) (by rw [putL_length]; exact Nat.le_trans hn (by decide))
  rw [putL_length] at this
  exact ⟨_, _, rfl, this, (Below.refl _ _).alloc (Nat.le_refl _) _⟩
theorem refPut_reads (v n : Nat) (hn : n ≤ 64) (w : World) :
    Calls Try.prog 57 #[.int .u64 v, .int .i64 n] w fun e w' => ∃ A c, e = .returned (.slice A n c) ∧ Bytes w' A n c (putL v n) ∧ Below w.heap.size w w' := by
  refine (refPut_any v n hn w).mono fun e w' h => ?_
  obtain ⟨rfl, rfl⟩ := h
  have := Bytes.made (w := w) (l := putL v n) (E := 5) (by rw [putL_length]; exact Nat.le_trans hn (by decide))
  rw [putL_length] at this
  exact ⟨_, _, rfl, this, (Below.refl _ _).alloc (Nat.le_refl _) _⟩
end Go.Proofs.Ytahphlcahaheiaa
