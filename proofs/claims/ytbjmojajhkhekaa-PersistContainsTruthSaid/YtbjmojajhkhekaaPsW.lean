/- Wake of both as functions of the numbers. -/
import Derived.Test.YtbjmojajhkhekaaPsV
namespace Go.Proofs.Ytbjmojajhkhekaa
open Go.RowKit

def wkE (at_ lo hi pp le re ol oh a : Int) : Int := if ¬ knE at_ lo hi pp le re = 0 then knE at_ lo hi pp le re else if ¬ spanOk ol oh then 3 else if ¬ 0 ≤ ol then 4 else if ¬ tickOk a then 4 else if ¬ spanOk (lo + ol) (hi + oh) then 4 else 0
def wkV (at_ lo hi pp le re ol oh a : Int) (v : Int) : Int := if wkE at_ lo hi pp le re ol oh a = 0 then v else 0
theorem wkV_no (at_ lo hi pp le re ol oh a : Int) (v : Int) (h : ¬ wkE at_ lo hi pp le re ol oh a = 0) : wkV at_ lo hi pp le re ol oh a v = 0 := if_neg h
theorem wkV_ok (at_ lo hi pp le re ol oh a : Int) (v : Int) (h : wkE at_ lo hi pp le re ol oh a = 0) : wkV at_ lo hi pp le re ol oh a v = v := if_pos h
theorem wake_any (cn : Int) (at_ lo hi pp le re ol oh a : Int) (w : World) : Calls Try.prog 43 #[.agg #[.int .i64 cn, .int .i64 at_, .int .i64 lo, .int .i64 hi, .int .i64 pp, .int .i64 le, .int .i64 re], .agg #[.int .i64 ol, .int .i64 oh], .int .i64 a] w fun e w' => e = .returned (.tuple #[.agg #[.int .i64 (wkV at_ lo hi pp le re ol oh a a), .int .i64 (wkV at_ lo hi pp le re ol oh a (lo + ol)), .int .i64 (wkV at_ lo hi pp le re ol oh a (hi + oh)), .int .i64 (wkV at_ lo hi pp le re ol oh a pp), .int .i64 0, .int .i64 0], .int .i64 (wkE at_ lo hi pp le re ol oh a)]) ∧ Below w.heap.size w w' := by
  by_cases h1 : knE at_ lo hi pp le re = 0
  · by_cases h2 : spanOk ol oh
    · by_cases h3 : 0 ≤ ol
      · by_cases h4 : tickOk a
        · by_cases h5 : spanOk (lo + ol) (hi + oh)
          · skip
            have he : wkE at_ lo hi pp le re ol oh a = 0 := (if_neg (fun g => g h1)).trans ((if_neg (fun g => g h2)).trans ((if_neg (fun g => g h3)).trans ((if_neg (fun g => g h4)).trans (if_neg (fun g => g h5)))))
            rw [wkV_ok at_ lo hi pp le re ol oh a a he, wkV_ok at_ lo hi pp le re ol oh a (lo + ol) he, wkV_ok at_ lo hi pp le re ol oh a (hi + oh) he, wkV_ok at_ lo hi pp le re ol oh a pp he, he]
            exact wake_6 cn at_ lo hi pp le re ol oh a w h1 h2 h3 h4 h5
          · skip
            have he : wkE at_ lo hi pp le re ol oh a = 4 := (if_neg (fun g => g h1)).trans ((if_neg (fun g => g h2)).trans ((if_neg (fun g => g h3)).trans ((if_neg (fun g => g h4)).trans (if_pos h5))))
            have hn : ¬ wkE at_ lo hi pp le re ol oh a = 0 := by rw [he]; decide
            rw [wkV_no at_ lo hi pp le re ol oh a a hn, wkV_no at_ lo hi pp le re ol oh a (lo + ol) hn, wkV_no at_ lo hi pp le re ol oh a (hi + oh) hn, wkV_no at_ lo hi pp le re ol oh a pp hn, he]
            exact wake_5 cn at_ lo hi pp le re ol oh a w h1 h2 h3 h4 h5
        · skip
          have he : wkE at_ lo hi pp le re ol oh a = 4 := (if_neg (fun g => g h1)).trans ((if_neg (fun g => g h2)).trans ((if_neg (fun g => g h3)).trans (if_pos h4)))
          have hn : ¬ wkE at_ lo hi pp le re ol oh a = 0 := by rw [he]; decide
          rw [wkV_no at_ lo hi pp le re ol oh a a hn, wkV_no at_ lo hi pp le re ol oh a (lo + ol) hn, wkV_no at_ lo hi pp le re ol oh a (hi + oh) hn, wkV_no at_ lo hi pp le re ol oh a pp hn, he]
          exact wake_4 cn at_ lo hi pp le re ol oh a w h1 h2 h3 h4
      · skip
        have he : wkE at_ lo hi pp le re ol oh a = 4 := (if_neg (fun g => g h1)).trans ((if_neg (fun g => g h2)).trans (if_pos h3))
        have hn : ¬ wkE at_ lo hi pp le re ol oh a = 0 := by rw [he]; decide
        rw [wkV_no at_ lo hi pp le re ol oh a a hn, wkV_no at_ lo hi pp le re ol oh a (lo + ol) hn, wkV_no at_ lo hi pp le re ol oh a (hi + oh) hn, wkV_no at_ lo hi pp le re ol oh a pp hn, he]
        exact wake_3 cn at_ lo hi pp le re ol oh a w h1 h2 h3
    · skip
      have he : wkE at_ lo hi pp le re ol oh a = 3 := (if_neg (fun g => g h1)).trans (if_pos h2)
      have hn : ¬ wkE at_ lo hi pp le re ol oh a = 0 := by rw [he]; decide
      rw [wkV_no at_ lo hi pp le re ol oh a a hn, wkV_no at_ lo hi pp le re ol oh a (lo + ol) hn, wkV_no at_ lo hi pp le re ol oh a (hi + oh) hn, wkV_no at_ lo hi pp le re ol oh a pp hn, he]
      exact wake_2 cn at_ lo hi pp le re ol oh a w h1 h2
  · skip
    have he : wkE at_ lo hi pp le re ol oh a = knE at_ lo hi pp le re := if_pos h1
    have hn : ¬ wkE at_ lo hi pp le re ol oh a = 0 := by rw [he]; exact h1
    rw [wkV_no at_ lo hi pp le re ol oh a a hn, wkV_no at_ lo hi pp le re ol oh a (lo + ol) hn, wkV_no at_ lo hi pp le re ol oh a (hi + oh) hn, wkV_no at_ lo hi pp le re ol oh a pp hn, he]
    exact wake_1 cn at_ lo hi pp le re ol oh a w h1
theorem refWake_any (cn : Int) (at_ lo hi pp le re ol oh a : Int) (w : World) : Calls Try.prog 44 #[.agg #[.int .i64 cn, .int .i64 at_, .int .i64 lo, .int .i64 hi, .int .i64 pp, .int .i64 le, .int .i64 re], .agg #[.int .i64 ol, .int .i64 oh], .int .i64 a] w fun e w' => e = .returned (.tuple #[.agg #[.int .i64 (wkV at_ lo hi pp le re ol oh a a), .int .i64 (wkV at_ lo hi pp le re ol oh a (lo + ol)), .int .i64 (wkV at_ lo hi pp le re ol oh a (hi + oh)), .int .i64 (wkV at_ lo hi pp le re ol oh a pp), .int .i64 0, .int .i64 0], .int .i64 (wkE at_ lo hi pp le re ol oh a)]) ∧ Below w.heap.size w w' := by
  by_cases h1 : knE at_ lo hi pp le re = 0
  · by_cases h2 : spanOk ol oh
    · by_cases h3 : 0 ≤ ol
      · by_cases h4 : tickOk a
        · by_cases h5 : spanOk (lo + ol) (hi + oh)
          · skip
            have he : wkE at_ lo hi pp le re ol oh a = 0 := (if_neg (fun g => g h1)).trans ((if_neg (fun g => g h2)).trans ((if_neg (fun g => g h3)).trans ((if_neg (fun g => g h4)).trans (if_neg (fun g => g h5)))))
            rw [wkV_ok at_ lo hi pp le re ol oh a a he, wkV_ok at_ lo hi pp le re ol oh a (lo + ol) he, wkV_ok at_ lo hi pp le re ol oh a (hi + oh) he, wkV_ok at_ lo hi pp le re ol oh a pp he, he]
            exact refWake_6 cn at_ lo hi pp le re ol oh a w h1 h2 h3 h4 h5
          · skip
            have he : wkE at_ lo hi pp le re ol oh a = 4 := (if_neg (fun g => g h1)).trans ((if_neg (fun g => g h2)).trans ((if_neg (fun g => g h3)).trans ((if_neg (fun g => g h4)).trans (if_pos h5))))
            have hn : ¬ wkE at_ lo hi pp le re ol oh a = 0 := by rw [he]; decide
            rw [wkV_no at_ lo hi pp le re ol oh a a hn, wkV_no at_ lo hi pp le re ol oh a (lo + ol) hn, wkV_no at_ lo hi pp le re ol oh a (hi + oh) hn, wkV_no at_ lo hi pp le re ol oh a pp hn, he]
            exact refWake_5 cn at_ lo hi pp le re ol oh a w h1 h2 h3 h4 h5
        · skip
          have he : wkE at_ lo hi pp le re ol oh a = 4 := (if_neg (fun g => g h1)).trans ((if_neg (fun g => g h2)).trans ((if_neg (fun g => g h3)).trans (if_pos h4)))
          have hn : ¬ wkE at_ lo hi pp le re ol oh a = 0 := by rw [he]; decide
          rw [wkV_no at_ lo hi pp le re ol oh a a hn, wkV_no at_ lo hi pp le re ol oh a (lo + ol) hn, wkV_no at_ lo hi pp le re ol oh a (hi + oh) hn, wkV_no at_ lo hi pp le re ol oh a pp hn, he]
          exact refWake_4 cn at_ lo hi pp le re ol oh a w h1 h2 h3 h4
      · skip
        have he : wkE at_ lo hi pp le re ol oh a = 4 := (if_neg (fun g => g h1)).trans ((if_neg (fun g => g h2)).trans (if_pos h3))
        have hn : ¬ wkE at_ lo hi pp le re ol oh a = 0 := by rw [he]; decide
        rw [wkV_no at_ lo hi pp le re ol oh a a hn, wkV_no at_ lo hi pp le re ol oh a (lo + ol) hn, wkV_no at_ lo hi pp le re ol oh a (hi + oh) hn, wkV_no at_ lo hi pp le re ol oh a pp hn, he]
        exact refWake_3 cn at_ lo hi pp le re ol oh a w h1 h2 h3
    · skip
      have he : wkE at_ lo hi pp le re ol oh a = 3 := (if_neg (fun g => g h1)).trans (if_pos h2)
      have hn : ¬ wkE at_ lo hi pp le re ol oh a = 0 := by rw [he]; decide
      rw [wkV_no at_ lo hi pp le re ol oh a a hn, wkV_no at_ lo hi pp le re ol oh a (lo + ol) hn, wkV_no at_ lo hi pp le re ol oh a (hi + oh) hn, wkV_no at_ lo hi pp le re ol oh a pp hn, he]
      exact refWake_2 cn at_ lo hi pp le re ol oh a w h1 h2
  · skip
    have he : wkE at_ lo hi pp le re ol oh a = knE at_ lo hi pp le re := if_pos h1
    have hn : ¬ wkE at_ lo hi pp le re ol oh a = 0 := by rw [he]; exact h1
    rw [wkV_no at_ lo hi pp le re ol oh a a hn, wkV_no at_ lo hi pp le re ol oh a (lo + ol) hn, wkV_no at_ lo hi pp le re ol oh a (hi + oh) hn, wkV_no at_ lo hi pp le re ol oh a pp hn, he]
    exact refWake_1 cn at_ lo hi pp le re ol oh a w h1
end Go.Proofs.Ytbjmojajhkhekaa
