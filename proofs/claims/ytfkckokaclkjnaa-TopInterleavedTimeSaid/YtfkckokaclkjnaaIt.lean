/- What the rounds of interleaved mode keep: the numbers, the table of true times. -/
import Derived.Test.YtfkckokaclkjnaaRead
import Derived.Test.YtfkckokaclkjnaaIlWG
import Derived.Maps.OwnOps
import Derived.Maps.Views
namespace Go.Proofs.Ytfkckokaclkjnaa
open Go Go.RowKit Go.Maps

theorem eraD_nat (t : Nat) (h : t < 4503599627370496) : eraD (t : Int) = t := by unfold eraD; omega
theorem wireN (t rc : Nat) (w : World) (h : t < 4503599627370496) (hr : t * 4096 = rc) : Calls Try.prog 7 #[.int .i64 t] w fun e w' => e = .returned (.tuple #[.int .u64 rc, .int .i64 0]) ∧ w = w' := by
  have h1 := wire_ok (t : Int) w (by unfold tickOk; omega)
  rw [eraD_nat t h, hr] at h1
  exact h1
theorem readingsN (lo hi : Int) (t2 t3 a b : Nat) (r1 r4 : Int) (il : Bool) (w : World) (hs : spanOk lo hi) (h1 : lo ≤ t2) (h2 : (t2 : Int) ≤ hi) (h3 : lo ≤ t3) (h4 : (t3 : Int) ≤ hi) (hw : hi - lo < 4503599627370496) (l2 : t2 < 4503599627370496) (l3 : t3 < 4503599627370496) (ha : t2 * 4096 = a) (hb : t3 * 4096 = b) : Calls Try.prog 10 #[.agg #[.int .i64 r1, .int .i64 r4, .int .u64 a, .int .u64 b, .bool il], .agg #[.int .i64 lo, .int .i64 hi]] w fun e w' => e = .returned (.tuple #[.agg #[.int .i64 r1, .int .i64 t2, .int .i64 t3, .int .i64 r4, .int .i64 0], .bool true]) ∧ Below w.heap.size w w' := by
  have h := readings_ok lo hi (t2 : Int) (t3 : Int) r1 r4 il w hs h1 h2 h3 h4 hw
  rw [eraD_nat t2 l2, eraD_nat t3 l3, ha, hb] at h
  exact h
/-- The table of true times: a map of the call's own. -/
def TMap (w : World) (b n : Nat) (D : DataW Unit) : Prop := w.ownsMap Try.prog 3 (plainElem Try.prog 3) b n D ∧ Maps.IsMap D
theorem TMap.lt {w : World} {b n : Nat} {D : DataW Unit} (h : TMap w b n D) : b < w.heap.size := h.1.lt
theorem TMap.grown {w w' : World} {b n : Nat} {D : DataW Unit} {row : Option Nat} (h : TMap w b n D) (hg : w.grownBy w' row) (hne : some b ≠ row) : TMap w' b n D := ⟨h.1.kept hg hne, h.2⟩
theorem TMap.stays {w w' : World} {b n : Nat} {D : DataW Unit} (h : TMap w b n D) (hb : Below w.heap.size w w') : TMap w' b n D := h.grown (grown_of_below hb none) (by simp)
theorem TMap.made (w : World) : TMap (w.alloc (.map #[] 0)) w.heap.size 0 (.map []) := ⟨World.ownsMap_made _ _ _ _, Maps.isMap_empty⟩
theorem lawInt : Keyed Try.prog 3 := int_keyed Try.underlying3
theorem zeroInt (w : World) : (zeroValue 3).run Try.prog w = .ok (.int .i64 0) w := by kernel_rfl
theorem keyInt (a : Nat) (h : a < 9223372036854775808) : keyOf Try.prog 3 (.int .i64 (a : Int)) = some (.int .i64 (a : Int)) := keyOf_int_mk Try.underlying3 (WalkArith.wf_i64 (by omega))
theorem elemInt (a : Nat) (h : a < 9223372036854775808) : plainElem (H := Unit) Try.prog 3 (.int .i64 (a : Int)) = some (.lit (.int .i64 (a : Int)), []) := plainElem_int Try.underlying3 (WalkArith.wf_i64 (by omega))
/-- What the table says at a reading. -/
def TAt (D : DataW Unit) (q v : Nat) : Prop := D.atKey (.int .i64 (q : Int)) (.lit (.int .i64 0)) = .lit (.int .i64 (v : Int))
theorem TAt.same {D : DataW Unit} (h : Maps.IsMap D) (q v : Nat) : TAt (D.put (.int .i64 (q : Int)) (.lit (.int .i64 (v : Int)))) q v := Maps.atKey_put_same (k := .int .i64 (q : Int)) h trivial _ _
theorem TAt.other {D : DataW Unit} {q v q' v' : Nat} (h : TAt D q v) (hne : q ≠ q') : TAt (D.put (.int .i64 (q' : Int)) (.lit (.int .i64 (v' : Int)))) q v := by
  unfold TAt
  rw [Maps.atKey_put_other (by intro e; injection e with _ e; omega)]
  exact h
theorem TMap.look {w : World} {b n q v : Nat} {D : DataW Unit} (h : TMap w b n D) (ht : TAt D q v) (hq : q < 9223372036854775808) : (Instr.lookup 32 (.map (some b)) (.int .i64 (q : Int)) false).run Try.prog w = .ok (.int .i64 (v : Int)) w := by
  obtain ⟨c, h1, h2, _⟩ := h.1.lookup_int lawInt Try.underlying32 Try.underlying3 (zeroInt _) (keyInt q hq)
  unfold TAt at ht
  rw [ht] at h2
  injection h2 with h2
  injection h2 with _ h2
  rw [h1, h2]
/-- What the rounds keep of the plain numbers. -/
def ISt (j : Nat) (k : Bool) (sent got re b3 ma now at_ B : Nat) (l : List (Nat × Nat)) (nn : Nat) : Prop :=
  (ma = j * 7919 ∧ nn = l.length ∧ nn = j ∧ k = decide (0 < j)) ∧ (∀ e ∈ l, e.1 ≤ (now - 1) * 4096) ∧ (B ≤ now ∧ now ≤ B + j * 107000 ∧ at_ ≤ j * 107000) ∧
    ((j = 0 ∧ l = []) ∨ (0 < j ∧ ∃ rI tI r, l = (re, b3) :: r ∧ rI * 4096 = re ∧ tI * 4096 = b3 ∧ got = at_ ∧ sent ≤ got ∧ B ≤ rI ∧ rI ≤ tI ∧ tI ≤ now ∧ now ≤ rI + (got - sent)))
theorem ISt.start (B : Nat) : ISt 0 false 0 0 0 0 0 B 0 B [] 0 := ⟨⟨rfl, rfl, rfl, rfl⟩, fun e he => (by cases he), ⟨Nat.le_refl _, by omega, by omega⟩, .inl ⟨rfl, rfl⟩⟩
theorem ISt.case {j : Nat} {k : Bool} {sent got re b3 ma now at_ B oo nn : Nat} {l : List (Nat × Nat)} (h : ISt j k sent got re b3 ma now at_ B l nn) (hB : 0 < B) (ho : oo = if k then re else 0) : (nn = 0 ∧ l = []) ∨ (0 < nn ∧ oo = re ∧ ¬ re = 0 ∧ ∃ r, l = (re, b3) :: r) := by
  obtain ⟨⟨h1, h2, h3, h4⟩, h5, h6, h7⟩ := h
  rcases h7 with ⟨rfl, rfl⟩ | ⟨h0, rI, tI, r, rfl, e1, e2, e3, e4, e5, e6, e7, e8⟩
  · exact .inl ⟨h3, rfl⟩
  · refine .inr ⟨by omega, ?_, by omega, r, rfl⟩
    rw [ho, h4, if_pos (by simpa using h0)]
theorem ISt.next {j : Nat} {k : Bool} {sent got re b3 ma now at_ B nn wt ou hd la ba rc tx t : Nat} {l : List (Nat × Nat)} (h : ISt j k sent got re b3 ma now at_ B l nn) (h1 : wt < 100000) (h2 : ou < 3000) (h3 : 1 ≤ hd) (h3' : hd ≤ 50) (h4 : la < 40) (h5 : ba < 3000)
    (hrc : (now + wt + ou) * 4096 = rc) (htx : (now + wt + ou + hd + la) * 4096 = tx) (ht : t = (j + 1) * 7919) :
    ISt (j + 1) true (at_ + wt) (at_ + wt + ou + hd + la + ba) rc tx t (now + wt + ou + hd + la + ba) (at_ + wt + ou + hd + la + ba) B ((rc, tx) :: l) (1 + nn) := by
  obtain ⟨⟨g1, g2, g3, g4⟩, g5, ⟨g6, g7, g8⟩, _⟩ := h
  refine ⟨⟨ht, by simp; omega, by omega, by simp⟩, fun e he => ?_, ⟨by omega, by omega, by omega⟩, .inr ⟨by omega, now + wt + ou, now + wt + ou + hd + la, l, rfl, hrc, htx, rfl, by omega, by omega, by omega, by omega, by omega⟩⟩
  rcases List.mem_cons.1 he with rfl | he
  · show rc ≤ _
    rw [← hrc]
    exact Nat.mul_le_mul_right _ (by omega)
  · exact Nat.le_trans (g5 e he) (Nat.mul_le_mul_right _ (by omega))
/-- The reading that an answer gives, in instants: its place in the table, and the true time there. -/
theorem ISt.reads {j : Nat} {k kp : Bool} {sent got re b3 ma now at_ B nn wt ou hd la ba rc tx : Nat} {l : List (Nat × Nat)} {r1 r4 : Int} {r2 r3 : Nat} (h : ISt j k sent got re b3 ma now at_ B l nn) (h1 : wt < 100000) (h2 : ou < 3000) (h3 : 1 ≤ hd) (h3' : hd ≤ 50) (h4 : la < 40) (h5 : ba < 3000)
    (hrc : (now + wt + ou) * 4096 = rc) (htx : (now + wt + ou + hd + la) * 4096 = tx) (hkp : kp = decide (0 < nn))
    (hr : (kp = false ∧ r1 = ((at_ + wt : Nat) : Int) ∧ r4 = ((at_ + wt + ou + hd + la + ba : Nat) : Int) ∧ r2 = rc ∧ r3 = tx) ∨ (kp = true ∧ r1 = (sent : Int) ∧ r4 = (got : Int) ∧ r2 = re ∧ r3 = b3)) :
    ∃ q1 q4 a b v : Nat, r1 = (q1 : Int) ∧ r4 = (q4 : Int) ∧ a * 4096 = r2 ∧ b * 4096 = r3 ∧ q1 ≤ q4 ∧ q4 ≤ (j + 1) * 107000 ∧ B ≤ a ∧ a ≤ b ∧ b ≤ v ∧ v ≤ a + (q4 - q1) ∧ v ≤ B + (j + 1) * 107000 ∧ ((q4 = at_ + wt + ou + hd + la + ba ∧ v = now + wt + ou + hd + la + ba) ∨ (0 < j ∧ q4 = at_ ∧ v = now)) := by
  obtain ⟨⟨g1, g2, g3, g4⟩, g5, ⟨g6, g7, g8⟩, g9⟩ := h
  rcases hr with ⟨_, rfl, rfl, rfl, rfl⟩ | ⟨hk, rfl, rfl, rfl, rfl⟩
  · exact ⟨at_ + wt, at_ + wt + ou + hd + la + ba, now + wt + ou, now + wt + ou + hd + la, now + wt + ou + hd + la + ba, rfl, rfl, hrc, htx, by omega, by omega, by omega, by omega, by omega, by omega, by omega, .inl ⟨rfl, rfl⟩⟩
  · have hn : 0 < nn := by rw [hk] at hkp; exact of_decide_eq_true hkp.symm
    rcases g9 with ⟨rfl, rfl⟩ | ⟨h0, rI, tI, r, e0, e1, e2, e3, e4, e5, e6, e7, e8⟩
    · omega
    · have f0 : j * 107000 ≤ (j + 1) * 107000 := Nat.mul_le_mul_right _ (Nat.le_succ j)
      have f1 : got ≤ (j + 1) * 107000 := by rw [e3]; exact Nat.le_trans g8 f0
      have f2 : now ≤ B + (j + 1) * 107000 := Nat.le_trans g7 (Nat.add_le_add_left f0 _)
      exact ⟨sent, got, rI, tI, now, rfl, rfl, e1, e2, e4, f1, e5, e6, e7, e8, f2, .inr ⟨h0, e3, rfl⟩⟩
end Go.Proofs.Ytfkckokaclkjnaa
