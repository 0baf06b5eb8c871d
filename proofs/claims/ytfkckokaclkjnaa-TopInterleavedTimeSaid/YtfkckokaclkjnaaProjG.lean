/- drift.Project where it succeeds; interval.Width, Holds of spans. -/
import Derived.Test.YtfkckokaclkjnaaHolLG
import Derived.Test.YtfkckokaclkjnaaSpnUG
import Derived.Test.YtfkckokaclkjnaaDrhG
namespace Go.Proofs.Ytfkckokaclkjnaa
open Go Go.RowKit

theorem el_span {d p : Nat} (hd : d < 562949953421312) (hp : p ≤ 1000000) : spanOk (eLo d p) (eHi d p) := by
  have h1 := el_lt hd hp
  have h2 := el_wide hd hp
  have h3 := el_le d p hp
  unfold spanOk tickOk
  omega
set_option maxRecDepth 100000 in
set_option maxHeartbeats 4000000 in
theorem holdsI (x y t : Int) (w : World) (h : spanOk x y) (h1 : x ≤ t) (h2 : t ≤ y) : Calls Try.prog 12 #[.agg #[.int .i64 x, .int .i64 y], .int .i64 t] w fun e w' => e = .returned (.bool true) ∧ Below w.heap.size w w' := by
  have e1 : decide (spanOk x y) = true := decide_eq_true h
  clear h
  go_enter Try.func12, Try.ntmps12
  go_upto_region 1 with fail
  obtain ⟨x1, s_, ex1, es_⟩ : ∃ x1 s_, x1 = w.alloc (.cells #[.int .i64 x, .int .i64 y] 31) ∧ s_ = w.heap.size := ⟨_, _, rfl, rfl⟩
  rw [← ex1, ← es_]
  have hbx : Below w.heap.size w x1 := by rw [ex1]; exact below_alloc1 _ _ 
  have g_S : w.heap.size ≤ s_ := by rw [es_]; exact Nat.le_refl _
  have BS := Lib.hid (show Blk x1 s_ 31 #[.int .i64 x, .int .i64 y] by rw [ex1, es_]; exact blk_new1_0 _ _ _ )
  have R2 := Lib.hid hbx
  have hz_x1 := R2.out.size
  clear hbx ex1 es_
  have kS_0 : x1.cell? ⟨s_, 0, none⟩ = some (.int .i64 x) := BS.out.cell 0
  have kS_1 : x1.cell? ⟨s_, 1, none⟩ = some (.int .i64 y) := BS.out.cell 1
  go_wp2_with fail
  refine (intervalV x y _).mono ?_
  rintro e y3 ⟨rfl, hb⟩
  clear kS_0 kS_1
  have hbx : Below x1.heap.size x1 y3 := below_via (by go_grown) hb (by first | (simp; done) | (simp; omega))
  have BS := Lib.hid (BS.out.stays hbx)
  have R4 := Lib.hid (R2.out.trans (hbx.mono hz_x1))
  have hz_y3 := R4.out.size
  clear hb hbx  R2 hz_x1
  rw [e1]
  have kS_0 : y3.cell? ⟨s_, 0, none⟩ = some (.int .i64 x) := BS.out.cell 0
  have kS_1 : y3.cell? ⟨s_, 1, none⟩ = some (.int .i64 y) := BS.out.cell 1
  go_wp2
  go_ret
  exact ⟨rfl, R4.out⟩
end Go.Proofs.Ytfkckokaclkjnaa
