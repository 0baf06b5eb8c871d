/- ticks.Wire, Down, Up of whole ticks; sectimeworld.Span. -/
import Derived.Test.YtfkckokaclkjnaaProjG
import Derived.Test.YtfkckokaclkjnaaWithWG
import Derived.BigQuiet
import Derived.Laws.BitsAllLaws
namespace Go.Proofs.Ytfkckokaclkjnaa
open Go Go.RowKit

/-- The ticks of an instant within its era. -/
def eraD (t : Int) : Nat := (t % 4503599627370496).toNat
theorem eraD_lt (t : Int) : eraD t < 4503599627370496 := by unfold eraD; omega
theorem eraD_eq (t : Int) : t = t / 4503599627370496 * 4503599627370496 + (eraD t : Nat) := by unfold eraD; omega
theorem wire_eq (t : Int) : IntKind.u64.wrap (IntKind.u64.wrap t * 4096) = ((eraD t * 4096 : Nat) : Int) := by
  simp only [IntKind.wrap_u64]
  unfold eraD
  omega
set_option maxHeartbeats 4000000 in
theorem wire_ok (t : Int) (w : World) (h : tickOk t) : Calls Try.prog 7 #[.int .i64 t] w fun e w' => e = .returned (.tuple #[.int .u64 ((eraD t * 4096 : Nat) : Int), .int .i64 0]) ∧ w = w' := by
  have hd := decide_eq_true h
  have hw := wire_eq t
  obtain ⟨W, hW⟩ : ∃ W, eraD t * 4096 = W := ⟨_, rfl⟩
  rw [hW] at hw ⊢
  clear hW
  go_enter Try.func7, Try.ntmps7
  go_wp2_with fail
  refine (ticksV t _).mono ?_
  rintro e q_ ⟨rfl, rfl⟩
  rw [hd]
  go_wp2
  go_returns
  exact ⟨rfl, rfl⟩
theorem and_zero (D : Nat) (h : D < 4503599627370496) : bits .and .u64 ((D * 4096 : Nat) : Int) ((4095 : Nat) : Int) = 0 := by
  rw [u64_and_nat _ _ (by omega) (by decide), show (4095 : Nat) = 2 ^ 12 - 1 from rfl, Nat.and_two_pow_sub_one_eq_mod]
  omega
set_option maxHeartbeats 4000000 in
theorem down_ok (D : Nat) (w : World) (h : D < 4503599627370496) : Calls Try.prog 32 #[.int .u64 ((D * 4096 : Nat) : Int)] w fun e w' => e = .returned (.int .i64 D) ∧ w = w' := by
  obtain ⟨W, hW⟩ : ∃ W, D * 4096 = W := ⟨_, rfl⟩
  have e1 : (W : Int) / 4096 = (D : Int) := by omega
  have e2 : IntKind.i64.wrap (D : Int) = (D : Int) := IntWalk.i64_in _ (by omega)
  rw [hW]
  clear hW
  go_enter Try.func32, Try.ntmps32
  go_wp2
  go_ret
  exact ⟨rfl, rfl⟩
set_option maxHeartbeats 4000000 in
theorem up_ok (D : Nat) (w : World) (h : D < 4503599627370496) : Calls Try.prog 31 #[.int .u64 ((D * 4096 : Nat) : Int)] w fun e w' => e = .returned (.int .i64 D) ∧ w = w' := by
  have CD := Lib.hid (fun w => down_ok D w h)
  have a1 := and_zero D h
  obtain ⟨W, hW⟩ : ∃ W, D * 4096 = W := ⟨_, rfl⟩
  rw [hW] at CD a1 ⊢
  have a2 : bits .and .u64 (W : Int) 4095 = 0 := a1
  clear hW a1
  go_enter Try.func31, Try.ntmps31
  go_wp2_with fail
  refine (CD.out _).mono ?_
  rintro e q_ ⟨rfl, rfl⟩
  go_wp2
  go_ret
  exact ⟨rfl, rfl⟩
set_option maxHeartbeats 4000000 in
theorem stamp_ok (k t : Int) (D : Nat) (w : World) (h : D < 4503599627370496) (hk : t = k * 4503599627370496 + (D : Int)) (ht : tickOk t) : Calls Try.prog 33 #[.int .i64 k, .int .u64 ((D * 4096 : Nat) : Int)] w fun e w' => e = .returned (.agg #[.int .i64 t, .int .i64 t]) ∧ Below w.heap.size w w' := by
  have CD := Lib.hid (fun w => down_ok D w h)
  have CU := Lib.hid (fun w => up_ok D w h)
  unfold tickOk at ht
  obtain ⟨K, hK⟩ : ∃ K, k * 4503599627370496 = K := ⟨_, rfl⟩
  have w1 : IntKind.i64.wrap K = K := IntWalk.i64_in _ (by omega)
  have w2 : K + (D : Int) = t := by omega
  have w3 : IntKind.i64.wrap t = t := IntWalk.i64_in _ (by omega)
  obtain ⟨W, hW⟩ : ∃ W, D * 4096 = W := ⟨_, rfl⟩
  rw [hW] at CD CU ⊢
  clear hW hk ht h
  go_enter Try.func33, Try.ntmps33
  go_upto_region 1 with fail
  obtain ⟨x1, h_, ex1, eh_⟩ : ∃ x1 h_, x1 = w.alloc (.cells #[.int .i64 0, .int .i64 0] 31) ∧ h_ = w.heap.size := ⟨_, _, rfl, rfl⟩
  rw [← ex1, ← eh_]
  have hbx : Below w.heap.size w x1 := by rw [ex1]; exact below_alloc1 _ _
  have g_H : w.heap.size ≤ h_ := by rw [eh_]; exact Nat.le_refl _
  have BH := Lib.hid (show Blk x1 h_ 31 #[.int .i64 0, .int .i64 0] by rw [ex1, eh_]; exact blk_new1_0 _ _ _ )
  have R2 := Lib.hid hbx
  clear hbx ex1 eh_
  go_wp2_with fail
  refine (CD.out _).mono ?_
  rintro e q_ ⟨rfl, rfl⟩
  go_wp2_with fail
  refine (CU.out _).mono ?_
  rintro e q_ ⟨rfl, rfl⟩
  have cH := BH.out.cell
  have zH := BH.out.frozen
  go_wp2
  clear zH cH
  generalize hwd : World.setCell _ ⟨h_, 1, none⟩ _ = wd
  have hwd2 : stores x1 h_ [.int .i64 t, .int .i64 t] 0 = wd := hwd
  have D1 : Blk wd h_ 31 #[.int .i64 t, .int .i64 t] := by rw [← hwd2]; exact BH.out.filled _ rfl
  have RD : Below w.heap.size w wd := by rw [← hwd2]; exact Below.stores (by omega) _ _ _ R2.out
  clear hwd hwd2
  have d1_0 : wd.cell? ⟨h_, 0, none⟩ = some (.int .i64 t) := D1.cell 0
  have d1_1 : wd.cell? ⟨h_, 1, none⟩ = some (.int .i64 t) := D1.cell 1
  try go_wp2_with fail
  refine bodyPost_ret (v := .agg #[.int .i64 t, .int .i64 t]) (by simp [results, Try.results33, go_sem, *]) rfl ⟨rfl, RD⟩
end Go.Proofs.Ytfkckokaclkjnaa
