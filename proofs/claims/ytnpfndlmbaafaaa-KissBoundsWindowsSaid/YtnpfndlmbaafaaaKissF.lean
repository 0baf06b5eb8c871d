import Derived.Test.YtnpfndlmbaafaaaKissD
namespace Go.Proofs.Ytnpfndlmbaafaaa
open Go.RowKit

/-- What a refusal does to a peer: poll exponent, stopped, fresh; the error. -/
def react (p : Int) (s f : Bool) (name : ByteArray) : Int × Bool × Bool × Int :=
  if p < 4 ∨ 17 < p then (0, false, false, 4)
  else if (name.toList == [68, 69, 78, 89]) = true then (p, true, f, 0)
  else if (name.toList == [82, 83, 84, 82]) = true then (p, true, f, 0)
  else if (name.toList == [82, 65, 84, 69]) = true then (min (p + 1) 17, s, f, 0)
  else if (name.toList == [78, 84, 83, 78]) = true then (p, s, true, 0)
  else (0, false, false, 11)
def good (p : Int) (s f : Bool) : Int × Bool × Bool × Int :=
  if p < 4 ∨ 17 < p then (0, false, false, 4) else if s = true then (0, false, false, 7) else (max (p - 1) 4, s, false, 0)
def peerV (r : Int × Bool × Bool × Int) : Value := .tuple #[.agg #[.int .i64 r.1, .bool r.2.1, .bool r.2.2.1], .int .i64 r.2.2.2]

set_option maxHeartbeats 400000 in
theorem polls_any (p : Int) (s f : Bool) (w : World) :
    Calls Try.prog 62 #[.agg #[.int .i64 p, .bool s, .bool f]] w fun e w' => e = .returned (.bool (!decide (p < 4 ∨ 17 < p))) ∧ w' = w.alloc (.cells #[.int .i64 p, .bool s, .bool f] 81) := by
  by_cases h1 : p < 4
  · go_enter Try.func62, Try.ntmps62
    go_wp2
    go_ret
    exact ⟨by simp [h1], rfl⟩
  · have h2 : decide (p ≤ 17) = !decide (17 < p) := by by_cases h : 17 < p <;> simp [h] <;> omega
    go_enter Try.func62, Try.ntmps62
    go_wp2
    go_ret
    exact ⟨by simp; omega, rfl⟩

set_option maxHeartbeats 1000000 in
theorem react_any (p : Int) (s f : Bool) (name : ByteArray) (w : World) :
    Calls Try.prog 43 #[.agg #[.int .i64 p, .bool s, .bool f], .string name] w fun e w' => e = .returned (peerV (react p s f name)) ∧ Below w.heap.size w w' := by
  have go : ∀ r, react p s f name = r → Calls Try.prog 43 #[.agg #[.int .i64 p, .bool s, .bool f], .string name] w fun e w' => e = .returned (peerV r) ∧ Below w.heap.size w w' := by
    intro r hr
    by_cases hp : p < 4 ∨ 17 < p
    · rw [react, if_pos hp] at hr
      subst hr
      go_enter Try.func43, Try.ntmps43
      go_wp2_with fail
      refine (polls_any _ _ _ _).mono ?_
      rintro e w1 ⟨rfl, rfl⟩
      rw [decide_eq_true hp]
      go_wp2
      go_returns
      exact ⟨by simp [peerV], by go_grown⟩
    · rw [react, if_neg hp] at hr
      have hp1 : 4 ≤ p := by omega
      have hp2 : p ≤ 17 := by omega
      by_cases b1 : (name.toList == [68, 69, 78, 89]) = true
      · rw [if_pos b1] at hr
        subst hr
        go_enter Try.func43, Try.ntmps43
        go_wp2_with fail
        refine (polls_any _ _ _ _).mono ?_
        rintro e w1 ⟨rfl, rfl⟩
        rw [decide_eq_false hp]
        go_wp2
        all_goals
          go_returns
          exact ⟨by simp [peerV]; try omega, by go_grown⟩
      rw [if_neg b1] at hr
      replace b1 : (name.toList == [68, 69, 78, 89]) = false := by simpa using b1
      by_cases b2 : (name.toList == [82, 83, 84, 82]) = true
      · rw [if_pos b2] at hr
        subst hr
        go_enter Try.func43, Try.ntmps43
        go_wp2_with fail
        refine (polls_any _ _ _ _).mono ?_
        rintro e w1 ⟨rfl, rfl⟩
        rw [decide_eq_false hp]
        go_wp2
        all_goals
          go_returns
          exact ⟨by simp [peerV]; try omega, by go_grown⟩
      rw [if_neg b2] at hr
      replace b2 : (name.toList == [82, 83, 84, 82]) = false := by simpa using b2
      by_cases b3 : (name.toList == [82, 65, 84, 69]) = true
      · rw [if_pos b3] at hr
        subst hr
        go_enter Try.func43, Try.ntmps43
        go_wp2_with fail
        refine (polls_any _ _ _ _).mono ?_
        rintro e w1 ⟨rfl, rfl⟩
        rw [decide_eq_false hp]
        go_wp2
        all_goals
          go_returns
          exact ⟨by simp [peerV]; try omega, by go_grown⟩
      rw [if_neg b3] at hr
      replace b3 : (name.toList == [82, 65, 84, 69]) = false := by simpa using b3
      by_cases b4 : (name.toList == [78, 84, 83, 78]) = true
      · rw [if_pos b4] at hr
        subst hr
        go_enter Try.func43, Try.ntmps43
        go_wp2_with fail
        refine (polls_any _ _ _ _).mono ?_
        rintro e w1 ⟨rfl, rfl⟩
        rw [decide_eq_false hp]
        go_wp2
        all_goals
          go_returns
          exact ⟨by simp [peerV]; try omega, by go_grown⟩
      rw [if_neg b4] at hr
      replace b4 : (name.toList == [78, 84, 83, 78]) = false := by simpa using b4
      subst hr
      go_enter Try.func43, Try.ntmps43
      go_wp2_with fail
      refine (polls_any _ _ _ _).mono ?_
      rintro e w1 ⟨rfl, rfl⟩
      rw [decide_eq_false hp]
      go_wp2
      all_goals
        go_returns
        exact ⟨by simp [peerV]; try omega, by go_grown⟩
  exact go _ rfl

set_option maxHeartbeats 1000000 in
theorem refReact_any (p : Int) (s f : Bool) (name : ByteArray) (w : World) :
    Calls Try.prog 44 #[.agg #[.int .i64 p, .bool s, .bool f], .string name] w fun e w' => e = .returned (peerV (react p s f name)) ∧ Below w.heap.size w w' := by
  have go : ∀ r, react p s f name = r → Calls Try.prog 44 #[.agg #[.int .i64 p, .bool s, .bool f], .string name] w fun e w' => e = .returned (peerV r) ∧ Below w.heap.size w w' := by
    intro r hr
    by_cases hp : p < 4 ∨ 17 < p
    · rw [react, if_pos hp] at hr
      subst hr
      rcases hp with hp | hp
      · go_enter Try.func44, Try.ntmps44
        go_wp2
        go_returns
        exact ⟨by simp [peerV], by go_grown⟩
      · have hp' : ¬ p < 4 := by omega
        go_enter Try.func44, Try.ntmps44
        go_wp2
        go_returns
        exact ⟨by simp [peerV], by go_grown⟩
    · rw [react, if_neg hp] at hr
      have hp1 : 4 ≤ p := by omega
      have hp2 : p ≤ 17 := by omega
      by_cases b1 : (name.toList == [68, 69, 78, 89]) = true
      · rw [if_pos b1] at hr
        subst hr
        clear hp
        go_enter Try.func44, Try.ntmps44
        go_wp2
        all_goals
          go_returns
          exact ⟨by simp [peerV]; try omega, by go_grown⟩
      rw [if_neg b1] at hr
      replace b1 : (name.toList == [68, 69, 78, 89]) = false := by simpa using b1
      by_cases b2 : (name.toList == [82, 83, 84, 82]) = true
      · rw [if_pos b2] at hr
        subst hr
        clear hp
        go_enter Try.func44, Try.ntmps44
        go_wp2
        all_goals
          go_returns
          exact ⟨by simp [peerV]; try omega, by go_grown⟩
      rw [if_neg b2] at hr
      replace b2 : (name.toList == [82, 83, 84, 82]) = false := by simpa using b2
      by_cases b3 : (name.toList == [82, 65, 84, 69]) = true
      · rw [if_pos b3] at hr
        subst hr
        clear hp
        go_enter Try.func44, Try.ntmps44
        go_wp2
        all_goals
          go_returns
          exact ⟨by simp [peerV]; try omega, by go_grown⟩
      rw [if_neg b3] at hr
      replace b3 : (name.toList == [82, 65, 84, 69]) = false := by simpa using b3
      by_cases b4 : (name.toList == [78, 84, 83, 78]) = true
      · rw [if_pos b4] at hr
        subst hr
        clear hp
        go_enter Try.func44, Try.ntmps44
        go_wp2
        all_goals
          go_returns
          exact ⟨by simp [peerV]; try omega, by go_grown⟩
      rw [if_neg b4] at hr
      replace b4 : (name.toList == [78, 84, 83, 78]) = false := by simpa using b4
      subst hr
      clear hp
      go_enter Try.func44, Try.ntmps44
      go_wp2
      all_goals
        go_returns
        exact ⟨by simp [peerV]; try omega, by go_grown⟩
  exact go _ rfl

set_option maxHeartbeats 1000000 in
theorem good_any (p : Int) (s f : Bool) (w : World) :
    Calls Try.prog 45 #[.agg #[.int .i64 p, .bool s, .bool f]] w fun e w' => e = .returned (peerV (good p s f)) ∧ Below w.heap.size w w' := by
  have go : ∀ r, good p s f = r → Calls Try.prog 45 #[.agg #[.int .i64 p, .bool s, .bool f]] w fun e w' => e = .returned (peerV r) ∧ Below w.heap.size w w' := by
    intro r hr
    by_cases hp : p < 4 ∨ 17 < p
    · rw [good, if_pos hp] at hr
      subst hr
      go_enter Try.func45, Try.ntmps45
      go_wp2_with fail
      refine (polls_any _ _ _ _).mono ?_
      rintro e w1 ⟨rfl, rfl⟩
      rw [decide_eq_true hp]
      go_wp2
      all_goals
        go_returns
        exact ⟨by simp [peerV]; try omega, by go_grown⟩
    · rw [good, if_neg hp] at hr
      have hp1 : 4 ≤ p := by omega
      have hp2 : p ≤ 17 := by omega
      cases s
      · rw [if_neg (by simp)] at hr
        subst hr
        go_enter Try.func45, Try.ntmps45
        go_wp2_with fail
        refine (polls_any _ _ _ _).mono ?_
        rintro e w1 ⟨rfl, rfl⟩
        rw [decide_eq_false hp]
        go_wp2
        all_goals
          go_returns
          exact ⟨by simp [peerV]; try omega, by go_grown⟩
      · rw [if_pos rfl] at hr
        subst hr
        go_enter Try.func45, Try.ntmps45
        go_wp2_with fail
        refine (polls_any _ _ _ _).mono ?_
        rintro e w1 ⟨rfl, rfl⟩
        rw [decide_eq_false hp]
        go_wp2
        all_goals
          go_returns
          exact ⟨by simp [peerV]; try omega, by go_grown⟩
  exact go _ rfl

set_option maxHeartbeats 1000000 in
theorem refGood_any (p : Int) (s f : Bool) (w : World) :
    Calls Try.prog 46 #[.agg #[.int .i64 p, .bool s, .bool f]] w fun e w' => e = .returned (peerV (good p s f)) ∧ Below w.heap.size w w' := by
  have go : ∀ r, good p s f = r → Calls Try.prog 46 #[.agg #[.int .i64 p, .bool s, .bool f]] w fun e w' => e = .returned (peerV r) ∧ Below w.heap.size w w' := by
    intro r hr
    by_cases hp : p < 4 ∨ 17 < p
    · rw [good, if_pos hp] at hr
      subst hr
      rcases hp with hp | hp
      · go_enter Try.func46, Try.ntmps46
        go_wp2
        all_goals
          go_returns
          exact ⟨by simp [peerV]; try omega, by go_grown⟩
      · have hp' : ¬ p < 4 := by omega
        go_enter Try.func46, Try.ntmps46
        go_wp2
        all_goals
          go_returns
          exact ⟨by simp [peerV]; try omega, by go_grown⟩
    · rw [good, if_neg hp] at hr
      have hp1 : 4 ≤ p := by omega
      have hp2 : p ≤ 17 := by omega
      clear hp
      cases s
      · rw [if_neg (by simp)] at hr
        subst hr
        go_enter Try.func46, Try.ntmps46
        go_wp2
        all_goals
          go_returns
          exact ⟨by simp [peerV]; try omega, by go_grown⟩
      · rw [if_pos rfl] at hr
        subst hr
        go_enter Try.func46, Try.ntmps46
        go_wp2
        all_goals
          go_returns
          exact ⟨by simp [peerV]; try omega, by go_grown⟩
  exact go _ rfl
theorem react_tup (p : Int) (s f : Bool) (name : ByteArray) (w : World) : Calls Try.prog 43 #[.agg #[.int .i64 p, .bool s, .bool f], .string name] w fun e w' =>
    e = .returned (.tuple #[.agg #[.int .i64 (react p s f name).1, .bool (react p s f name).2.1, .bool (react p s f name).2.2.1], .int .i64 (react p s f name).2.2.2]) ∧ Below w.heap.size w w' := react_any p s f name w
theorem refReact_tup (p : Int) (s f : Bool) (name : ByteArray) (w : World) : Calls Try.prog 44 #[.agg #[.int .i64 p, .bool s, .bool f], .string name] w fun e w' =>
    e = .returned (.tuple #[.agg #[.int .i64 (react p s f name).1, .bool (react p s f name).2.1, .bool (react p s f name).2.2.1], .int .i64 (react p s f name).2.2.2]) ∧ Below w.heap.size w w' := refReact_any p s f name w
theorem good_tup (p : Int) (s f : Bool) (w : World) : Calls Try.prog 45 #[.agg #[.int .i64 p, .bool s, .bool f]] w fun e w' =>
    e = .returned (.tuple #[.agg #[.int .i64 (good p s f).1, .bool (good p s f).2.1, .bool (good p s f).2.2.1], .int .i64 (good p s f).2.2.2]) ∧ Below w.heap.size w w' := good_any p s f w
theorem refGood_tup (p : Int) (s f : Bool) (w : World) : Calls Try.prog 46 #[.agg #[.int .i64 p, .bool s, .bool f]] w fun e w' =>
    e = .returned (.tuple #[.agg #[.int .i64 (good p s f).1, .bool (good p s f).2.1, .bool (good p s f).2.2.1], .int .i64 (good p s f).2.2.2]) ∧ Below w.heap.size w w' := refGood_any p s f w
end Go.Proofs.Ytnpfndlmbaafaaa
