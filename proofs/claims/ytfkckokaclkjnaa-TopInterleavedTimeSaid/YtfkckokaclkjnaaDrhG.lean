/- drift.Elapsed where it succeeds. -/
import Derived.Test.YtfkckokaclkjnaaDrgG
namespace Go.Proofs.Ytfkckokaclkjnaa
open Go Go.RowKit

def eLo (e p : Nat) : Nat := quoN (e * 1000000000) (1000000000 + p) false
def eHi (e p : Nat) : Nat := quoN (e * 1000000000) (1000000000 - p) true
set_option maxRecDepth 100000 in
set_option maxHeartbeats 4000000 in
theorem elapsed_ok15 (e p : Nat) (w : World) (he : e < 562949953421312) (hp : p ≤ 1000000) : Calls Try.prog 22 #[.int .i64 e, .int .i64 p] w fun x w' => x = .returned (.tuple #[.agg #[.int .i64 (eLo e p), .int .i64 (eHi e p)], .int .i64 0]) ∧ Below w.heap.size w w' := by
  have Q1 := Lib.hid (fun w => quotient_pos e 1000000000 (1000000000 + p) false w (by omega) (by decide) (by omega) (by omega) (quo_lt he (by decide) (by omega)))
  have Q2 := Lib.hid (fun w => quotient_pos e 1000000000 (1000000000 - p) true w (by omega) (by decide) (by omega) (by omega) (quo_lt he (by decide) (by omega)))
  obtain ⟨b1, hb1⟩ : ∃ b1, 1000000000 - p = b1 := ⟨_, rfl⟩
  obtain ⟨b2, hb2⟩ : ∃ b2, 1000000000 + p = b2 := ⟨_, rfl⟩
  obtain ⟨lo, hlo⟩ : ∃ lo, eLo e p = lo := ⟨_, rfl⟩
  obtain ⟨hi, hhi⟩ : ∃ hi, eHi e p = hi := ⟨_, rfl⟩
  have e1 : (1000000000 : Int) - (p : Int) = (b1 : Int) := by omega
  have e2 : (1000000000 : Int) + (p : Int) = (b2 : Int) := by omega
  rw [hlo, hhi]
  unfold eLo at hlo
  unfold eHi at hhi
  rw [hb2] at hlo Q1
  rw [hb1] at hhi Q2
  rw [hlo] at Q1
  rw [hhi] at Q2
  have w1 : IntKind.i64.wrap (b1 : Int) = (b1 : Int) := IntWalk.i64_in _ (by omega)
  have w2 : IntKind.i64.wrap (b2 : Int) = (b2 : Int) := IntWalk.i64_in _ (by omega)
  clear hb1 hb2 hlo hhi
  go_enter Try.func22, Try.ntmps22
  go_upto_region 1 with fail
  obtain ⟨x1, h_, ex1, eh_⟩ : ∃ x1 h_, x1 = w.alloc (.cells #[.int .i64 0, .int .i64 0] 31) ∧ h_ = w.heap.size := ⟨_, _, rfl, rfl⟩
  rw [← ex1, ← eh_]
  have hbx : Below w.heap.size w x1 := by rw [ex1]; exact (Below.refl _ _).alloc (Nat.le_refl _) _
  have g_H : w.heap.size ≤ h_ := by rw [eh_]; exact Nat.le_refl _
  have BH := Lib.hid (show Blk x1 h_ 31 #[.int .i64 0, .int .i64 0] by rw [ex1, eh_]; exact Blk.new _ _ _)
  have R2 := Lib.hid hbx
  have hz_x1 := R2.out.size
  clear hbx ex1 eh_
  go_wp2_with fail
  refine (in_ok e p _ hp (by omega)).mono ?_
  rintro x q_ ⟨rfl, rfl⟩
  go_wp2_with fail
  refine (Q1.out _).mono ?_
  rintro x y1 ⟨rfl, hb⟩
  have hbx : Below x1.heap.size x1 y1 := below_via (by go_grown) hb (by first | (simp; done) | (simp; omega))
  have BH := Lib.hid (BH.out.stays hbx)
  have R4 := Lib.hid (R2.out.trans (hbx.mono hz_x1))
  have hz_y1 := R4.out.size
  clear hb hbx R2 hz_x1
  go_wp2_with fail
  refine (Q2.out _).mono ?_
  rintro x y3 ⟨rfl, hb⟩
  have hbx : Below y1.heap.size y1 y3 := below_via (by go_grown) hb (by first | (simp; done) | (simp; omega))
  have BH := Lib.hid (BH.out.stays hbx)
  have R6 := Lib.hid (R4.out.trans (hbx.mono hz_y1))
  have hz_y3 := R6.out.size
  clear hb hbx R4 hz_y1
  have cH := BH.out.cell
  have zH := BH.out.frozen
  go_wp2
  clear zH cH
  generalize hwd : World.setCell _ ⟨h_, 1, none⟩ _ = wd
  have hwd2 : stores y3 h_ [.int .i64 (lo : Int), .int .i64 (hi : Int)] 0 = wd := hwd
  have D1 : Blk wd h_ 31 #[.int .i64 (lo : Int), .int .i64 (hi : Int)] := by rw [← hwd2]; exact BH.out.filled _ rfl
  have RD : Below w.heap.size w wd := by rw [← hwd2]; exact Below.stores (by omega) _ _ _ R6.out
  clear hwd hwd2
  have d1_0 : wd.cell? ⟨h_, 0, none⟩ = some (.int .i64 (lo : Int)) := D1.cell 0
  have d1_1 : wd.cell? ⟨h_, 1, none⟩ = some (.int .i64 (hi : Int)) := D1.cell 1
  try go_wp2_with fail
  refine bodyPost_ret (v := .tuple #[.agg #[.int .i64 (lo : Int), .int .i64 (hi : Int)], .int .i64 0]) (by simp [results, Try.results22, go_sem, *]) rfl ⟨rfl, RD⟩
end Go.Proofs.Ytfkckokaclkjnaa
