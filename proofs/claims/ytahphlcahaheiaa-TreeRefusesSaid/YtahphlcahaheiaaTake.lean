/- A call that answers the same, and leaves the world alone, in each world that meets a condition may be taken first in a region whose order is open. -/
import Derived.OrdersHeld
import Derived.Deep.RegionHeld
import Derived.Test.YtahphlcahaheiaaBlk
import Derived.Test.YtahphlcahaheiaaStores
namespace Go.Proofs.Ytahphlcahaheiaa
open Go Go.RowKit

section
variable {P : Program} {ops : Array Oper} {Q : Exit → Act → World → Prop} {md : Region.Mode} {S : World → Prop}

/-- What 'o' does in state 'a' in a world of S: it yields v, at once or by a call, and the world stays. -/
def Lands (P : Program) (v : Value) (w : World) : Result Next → Prop
  | .ok (.value u) w' => u = v ∧ w' = w
  | .ok (.enter f args) w' => w' = w ∧ Calls P f args w fun e w'' => e = .returned v ∧ w'' = w
  | _ => False

def TakesIf (P : Program) (ops : Array Oper) (S : World → Prop) (o : Oper) (v : Value) (a : Act) : Prop :=
  Region.wanted o (yielded ops a.tmps) = true ∧ ∀ w, S w → Lands P v w ((execOp a.eval o).run P w)

theorem Lands.upon {v : Value} {w : World} {r : Result Next} (h : Lands P v w r) {o : Oper} {a : Act} {K : Act → World → Prop} (hK : K (a.put o.dst v) w) : o.upon P a K Q r := by
  cases r with
  | ok n w' =>
    cases n with
    | value u => obtain ⟨rfl, rfl⟩ := h; exact hK
    | enter f args =>
      obtain ⟨rfl, h⟩ := h
      refine Calls.mono h fun e w'' he => ?_
      obtain ⟨rfl, rfl⟩ := he
      exact hK
    | skip => exact h.elim
    | defer d => exact h.elim
    | row r args => exact h.elim
    | _ => exact h.elim
  | halt x w' => exact h.elim

theorem TakesIf.wpOp {i : Nat} {o : Oper} {v : Value} {a : Act} (hi : ops[i]? = some o) (hy : TakesIf P ops S o v a) {K : Act → World → Prop} {w : World} (hS : S w) (h : K (a.put o.dst v) w) :
    wpOp P ops Q i K a w := by
  unfold Go.wpOp
  simp only [hi, hy.1, if_true]
  exact .inl ((hy.2 w hS).upon h)

theorem TakesIf.same {o : Oper} {v : Value} {a a' : Act} (hy : TakesIf P ops S o v a) (he : execOp a'.eval o = execOp a.eval o)
    (hw : Region.wanted o (yielded ops a'.tmps) = Region.wanted o (yielded ops a.tmps)) : TakesIf P ops S o v a' := by
  unfold TakesIf at *; rw [he, hw]; exact hy

/-- Another operation, apart from 'oi', finds the same whether 'oi' has been taken or not. -/
theorem take_past {j : Nat} {oi oj : Oper} {v : Value} (hj : ops[j]? = some oj) (hap : oi.apart ops oj = true)
    (hsi : ∀ cs b, oi.op ≠ .select cs b) (hsj : ∀ cs b, oj.op ≠ .select cs b)
    (hQ : ∀ c a w, Q (.panic c) (a.put oi.dst v) w → Q (.panic c) a w) {K : Act → World → Prop} {a : Act} {w : World}
    (hy : TakesIf P ops S oi v a) (h : wpOp P ops Q j K (a.put oi.dst v) w) :
    wpOp P ops Q j (fun a' w' => TakesIf P ops S oi v a' ∧ K (a'.put oi.dst v) w') a w := by
  obtain ⟨h1, h2, h3⟩ := Oper.apart_spec hap
  have keep : ∀ (b : Act), TakesIf P ops S oi v b → ∀ u, TakesIf P ops S oi v (b.put oj.dst u) := fun b hb u =>
    hb.same (execOp_put oi hsi b oj.dst u h3) (wanted_put oi b oj.dst u h3)
  have keepD : ∀ d, TakesIf P ops S oi v { a with defers := d :: a.defers } := fun d => hy.same rfl rfl
  have turn : ∀ u, K ((a.put oi.dst v).put oj.dst u) w → K ((a.put oj.dst u).put oi.dst v) w := fun u hk => by rw [← Act.put_comm a v u h2]; exact hk
  unfold Go.wpOp at *
  simp only [hj] at *
  rw [wanted_put oj a oi.dst v h1] at h
  by_cases hw : Region.wanted oj (yielded ops a.tmps) = true
  · simp only [hw, if_true] at h ⊢
    rcases h with h | ⟨hasks, hlets⟩
    · left
      unfold Oper.wp at *
      rw [execOp_put oj hsj a oi.dst v h1] at h
      generalize (execOp a.eval oj).run P w = r at *
      cases r with
      | ok n w' =>
        cases n with
        | value u => exact ⟨keep a hy u, by rw [← Act.put_comm a v u h2]; exact h⟩
        | skip => exact ⟨keep a hy _, by rw [← Act.put_comm a v undef h2]; exact h⟩
        | defer d =>
          refine ⟨keep _ (keepD d) _, ?_⟩
          rw [← Act.put_comm _ v undef h2, ← Act.put_defers]
          exact h
        | enter f args =>
          refine Calls.mono h fun e w'' he => ?_
          cases e with
          | returned u => exact ⟨keep a hy u, by rw [← Act.put_comm a v u h2]; exact he⟩
          | panicked c => exact hQ _ _ _ he
          | outgrown => exact he
        | row r args => exact Rows.mono h fun u w'' he => ⟨keep a hy u, by rw [← Act.put_comm a v u h2]; exact he⟩
        | _ => exact h.elim
      | halt x w' =>
        cases x with
        | panic u => exact hQ _ _ _ h
        | _ => exact h.elim
    · right
      exact ⟨by unfold Oper.asks at *; rw [execOp_put oj hsj a oi.dst v h1] at hasks; exact hasks, hlets⟩
  · simp only [hw, Bool.false_eq_true, if_false] at h ⊢
    exact ⟨keep a hy _, by rw [← Act.put_comm a v undef h2]; exact h⟩

theorem take_first {i : Nat} {oi : Oper} {v : Value} (hi : ops[i]? = some oi) (hsel : ∀ (j : Nat) (o : Oper) cs b, ops[j]? = some o → o.op ≠ .select cs b)
    (hQ : ∀ c a w, Q (.panic c) (a.put oi.dst v) w → Q (.panic c) a w) (fuel : Nat) : ∀ (listed : Array Bool) (a : Act) (w : World),
      (∀ j oj, ops[j]? = some oj → j ≠ i → listed.getD j true = false → (∀ e ∈ oj.after, Region.binds md e = true → e.on ≠ i) → oi.apart ops oj = true) →
      i ∈ Region.ready md ops listed → TakesIf P ops S oi v a → S w →
      wpAnyH P md ops Q S fuel (listed.setIfInBounds i true) (a.put oi.dst v) w → wpAnyH P md ops Q S (fuel + 1) listed a w := by
  induction fuel with
  | zero =>
    intro listed a w _ hr hy hS H
    refine ⟨fun h => (by rw [h] at hr; cases hr), fun j hj => ?_⟩
    by_cases hji : j = i
    · subst hji; exact hy.wpOp hi hS ⟨hS, H⟩
    · have := ready_mono hj hji
      rw [H.1] at this; cases this
  | succ fuel ih =>
    intro listed a w hfree hr hy hS H
    refine ⟨fun h => (by rw [h] at hr; cases hr), fun j hj => ?_⟩
    by_cases hji : j = i
    · subst hji; exact hy.wpOp hi hS ⟨hS, H⟩
    have hgo := H.2 j (ready_mono hj hji)
    obtain ⟨hjun, oj, hoj, hall⟩ := mem_ready.1 hj
    have hnot : ∀ e ∈ oj.after, Region.binds md e = true → e.on ≠ i := fun e he hb heq => by
      have h1 := hall e he hb
      have h0 := (mem_ready.1 hr).1
      rw [heq] at h1
      rcases Nat.lt_or_ge i listed.size with h' | h'
      · simp [h'] at h0 h1; rw [h0] at h1; cases h1
      · simp [Array.getElem?_eq_none h'] at h1
    have hpast := take_past hoj (hfree j oj hoj hji hjun hnot) (fun cs b => hsel i oi cs b hi) (fun cs b => hsel j oj cs b hoj) hQ hy hgo
    refine wpOp_mono (fun a' w' h3 => ⟨h3.2.1, ih (listed.setIfInBounds j true) a' w' (fun k ok hk hki hun hno => hfree k ok hk hki ?_ hno) (ready_mono hr (Ne.symm hji)) h3.1 h3.2.1 ?_⟩) hpast
    · by_cases hjk : j = k
      · subst hjk; exact hjun
      · rw [getD_set_ne true hjk] at hun; exact hun
    · rw [Array.setIfInBounds_comm _ _ hji]; exact h3.2.2

/-- The post of a panic does not hang on the slots. -/
def PQ (Q : Exit → Act → World → Prop) : Prop := ∀ c (a : Act) d v w, Q (.panic c) (a.put d v) w → Q (.panic c) a w
theorem PQ.then {K : Act → World → Prop} (h : PQ Q) : PQ (Exit.then K Q) := fun c a d v w => h c a d v w
theorem PQ.block {n : Nat} (h : PQ Q) : PQ (Exit.inBlock n Q) := fun c a d v w => h c a d v w
/-- The beginning of a region. -/
theorem take_start {id : Nat} {a : Act} {w : World} (hm : P.follows .mixedOrders = true) (hQ : PQ Q) (hS : S w.drew)
    (h : PQ Q → S w.drew → wpAnyH P .any ops Q S ops.size (Array.replicate ops.size false) a w.drew) : (Code.region id ops true).wp P Q a w := wp_region_held_drew hm hS (h hQ)
/-- A value is taken first: what it is asked in the worlds of S alone. -/
theorem take_val {i : Nat} {oi : Oper} {d : Option Tmp} {v : Value} {fuel : Nat} {listed : Array Bool} {a : Act} {w : World} (hi : ops[i]? = some oi) (hd : oi.dst = d)
    (hs : Region.noSelect ops = true) (hf : Region.free md ops listed i = true) (hr : (Region.ready md ops listed).contains i = true)
    (hQ : PQ Q) (hw : Region.wanted oi (yielded ops a.tmps) = true)
    (hrun : ∀ w, S w → (execOp a.eval oi).run P w = .ok (.value v) w) (hS : S w)
    (h : wpAnyH P md ops Q S fuel (listed.setIfInBounds i true) (a.put d v) w) : wpAnyH P md ops Q S (fuel + 1) listed a w := by
  subst hd
  exact wpAnyH_take hi hs hf hr (fun c a w => hQ c a _ _ w) (Or.inl ⟨hw, hrun⟩) hS h
/-- A guarded operation that is not wanted. -/
theorem take_none {i : Nat} {oi : Oper} {d : Option Tmp} {fuel : Nat} {listed : Array Bool} {a : Act} {w : World} (hi : ops[i]? = some oi) (hd : oi.dst = d)
    (hs : Region.noSelect ops = true) (hf : Region.free md ops listed i = true) (hr : (Region.ready md ops listed).contains i = true)
    (hQ : PQ Q) (hw : Region.wanted oi (yielded ops a.tmps) = false) (hS : S w)
    (h : wpAnyH P md ops Q S fuel (listed.setIfInBounds i true) (a.put d undef) w) : wpAnyH P md ops Q S (fuel + 1) listed a w := by
  subst hd
  exact wpAnyH_take hi hs hf hr (fun c a w => hQ c a _ _ w) (Or.inr ⟨hw, rfl⟩) hS h
/-- A call of a Go function is taken first. -/
theorem take_call {i : Nat} {oi : Oper} {d : Option Tmp} {v : Value} {f : FuncId} {args : Array Value} {fuel : Nat} {listed : Array Bool} {a : Act} {w : World} (hi : ops[i]? = some oi) (hd : oi.dst = d)
    (hs : Region.noSelect ops = true) (hf : Region.free md ops listed i = true) (hr : (Region.ready md ops listed).contains i = true)
    (hQ : PQ Q) (hw : Region.wanted oi (yielded ops a.tmps) = true)
    (hc : ∀ w, S w → Calls P f args w fun e w' => e = .returned v ∧ w' = w) (hrun : ∀ w, S w → (execOp a.eval oi).run P w = .ok (.enter f args) w) (hS : S w)
    (h : wpAnyH P md ops Q S fuel (listed.setIfInBounds i true) (a.put d v) w) : wpAnyH P md ops Q S (fuel + 1) listed a w := by
  subst hd
  exact take_first hi (Region.noSelect_spec hs) (fun c a w => hQ c a _ _ w) fuel listed a w (Region.free_spec hi hf) (by simpa using hr) ⟨hw, fun w hSw => by rw [hrun w hSw]; exact ⟨rfl, hc w hSw⟩⟩ hS h
theorem Region.unguarded {o : Oper} (h : o.guard = none) (t : Nat → Option Bool) : Region.wanted o t = true := by simp [Region.wanted, h]
/-- An operation that goes by itself, while nothing else can come up: it yields v, and the world is w2. -/
theorem take_do {j : Nat} {oj : Oper} {d : Option Tmp} {v : Value} {w2 : World} {fuel : Nat} {listed : Array Bool} {a : Act} {w : World} (hj : ops[j]? = some oj) (hd : oj.dst = d)
    (hr : Region.ready md ops listed = [j]) (hg : oj.guard = none)
    (hrun : (execOp a.eval oj).run P w = .ok (.value v) w2 ∨ v = undef ∧ (execOp a.eval oj).run P w = .ok .skip w2) (hS : S w2)
    (h : wpAnyH P md ops Q S fuel (listed.setIfInBounds j true) (a.put d v) w2) : wpAnyH P md ops Q S (fuel + 1) listed a w := by
  subst hd
  refine wpAnyH_all hr (by simp) fun k hk => ?_
  obtain rfl : k = j := by simpa using hk
  unfold Go.wpOp
  simp only [hj]
  rw [if_pos (Region.unguarded hg _)]
  left
  unfold Oper.wp
  rcases hrun with hrun | ⟨rfl, hrun⟩
  · rw [hrun]; exact ⟨hS, h⟩
  · rw [hrun]; exact ⟨hS, h⟩
/-- A struct stored whole into a block that is known whole, while nothing else can come up. -/
theorem take_store {j : Nat} {oj : Oper} {g : Nat} {T : TypeId} {z : Array Value} {vs : List Value} {fuel : Nat} {listed : Array Bool} {a : Act} {w : World} (hj : ops[j]? = some oj) (hd : oj.dst = none)
    (hr : Region.ready md ops listed = [j]) (hg : oj.guard = none) (hB : Blk w g T z) (hl : vs.length = z.size)
    (hrun : (∀ i, w.cell? ⟨g, i, none⟩ = z[i]?) → (∀ i, w.frozen? ⟨g, i, none⟩ = false) → (execOp a.eval oj).run P w = .ok .skip (stores w g vs 0)) (hS : S (stores w g vs 0))
    (h : ∀ w2, S w2 → Blk w2 g T vs.toArray → wpAnyH P md ops Q S fuel (listed.setIfInBounds j true) a w2) : wpAnyH P md ops Q S (fuel + 1) listed a w :=
  take_do (d := none) (v := undef) hj hd hr hg (.inr ⟨rfl, hrun hB.cell hB.frozen⟩) hS (h _ hS (hB.filled vs hl))
theorem take_store_eq {j : Nat} {oj : Oper} {g : Nat} {T : TypeId} {z : Array Value} {vs : List Value} {fuel : Nat} {listed : Array Bool} {a : Act} {w : World} (hj : ops[j]? = some oj) (hd : oj.dst = none)
    (hr : Region.ready md ops listed = [j]) (hg : oj.guard = none) (hB : Blk w g T z) (hl : vs.length = z.size)
    (hrun : (∀ i, w.cell? ⟨g, i, none⟩ = z[i]?) → (∀ i, w.frozen? ⟨g, i, none⟩ = false) → (execOp a.eval oj).run P w = .ok .skip (stores w g vs 0)) (hS : S (stores w g vs 0))
    (h : ∀ w2, w2 = stores w g vs 0 → S w2 → Blk w2 g T vs.toArray → wpAnyH P md ops Q S fuel (listed.setIfInBounds j true) a w2) : wpAnyH P md ops Q S (fuel + 1) listed a w :=
  take_do (d := none) (v := undef) hj hd hr hg (.inr ⟨rfl, hrun hB.cell hB.frozen⟩) hS (h _ rfl hS (hB.filled vs hl))
/-- A call that makes memory, while nothing else can come up. -/
theorem take_make {j : Nat} {oj : Oper} {d : Option Tmp} {f : FuncId} {args : Array Value} {R : Value → World → Prop} {fuel : Nat} {listed : Array Bool} {a : Act} {w : World} (hj : ops[j]? = some oj) (hd : oj.dst = d)
    (hr : Region.ready md ops listed = [j]) (hg : oj.guard = none)
    (hc : Calls P f args w fun e w' => ∃ v, e = .returned v ∧ R v w') (hrun : (execOp a.eval oj).run P w = .ok (.enter f args) w)
    (h : ∀ v w2, R v w2 → S w2 ∧ wpAnyH P md ops Q S fuel (listed.setIfInBounds j true) (a.put d v) w2) : wpAnyH P md ops Q S (fuel + 1) listed a w := by
  subst hd
  refine wpAnyH_all hr (by simp) fun k hk => ?_
  obtain rfl : k = j := by simpa using hk
  unfold Go.wpOp
  simp only [hj]
  rw [if_pos (Region.unguarded hg _)]
  left
  unfold Oper.wp
  rw [hrun]
  refine Calls.mono hc fun e w2 he => ?_
  obtain ⟨v, rfl, hR⟩ := he
  exact h v w2 hR
theorem relist {fuel : Nat} {L L' : Array Bool} {a : Act} {w : World} (h : L = L') (k : wpAnyH P md ops Q S fuel L' a w) : wpAnyH P md ops Q S fuel L a w := h ▸ k
/-- An allocation alone. -/
theorem take_alloc {i : Nat} {oi : Oper} {di : Option Tmp} {T : TypeId} {z : Array Value} {fuel : Nat} {listed : Array Bool} {a : Act} {w : World} (hi : ops[i]? = some oi) (hdi : oi.dst = di)
    (hr : Region.ready md ops listed = [i]) (hg : oi.guard = none)
    (hal : (execOp a.eval oi).run P w = .ok (.value (.pointer (some ⟨w.heap.size, 0, none⟩))) (w.alloc (.cells z T))) (hSb : ∀ w', Below w.heap.size w w' → S w')
    (h : ∀ g w2, w.heap.size ≤ g → Blk w2 g T z → Below w.heap.size w w2 → S w2 → wpAnyH P md ops Q S fuel (listed.setIfInBounds i true) (a.put di (.pointer (some ⟨g, 0, none⟩))) w2) : wpAnyH P md ops Q S (fuel + 1) listed a w := by
  have hb : Below w.heap.size w (w.alloc (.cells z T)) := (Below.refl _ w).alloc (Nat.le_refl _) _
  exact take_do hi hdi hr hg (.inl hal) (hSb _ hb) (h _ _ (Nat.le_refl _) (Blk.new _ _ _) hb (hSb _ hb))
/-- An allocation whose place is open beside one call that makes memory: both ways come to C. -/
theorem take_fork {α : Type} {i j : Nat} {oi oj : Oper} {di dj : Option Tmp} {T : TypeId} {z : Array Value} {f : FuncId} {args : Array Value} {val : α → Value} {R : α → World → Prop} {C : α → Nat → World → Prop} {fuel : Nat} {listed : Array Bool} {a : Act} {w : World}
    (hi : ops[i]? = some oi) (hdi : oi.dst = di) (hj : ops[j]? = some oj) (hdj : oj.dst = dj) (hr : (Region.ready md ops listed).all (fun k => k == i || k == j) = true) (hne : (Region.ready md ops listed).isEmpty = false)
    (hri : Region.ready md ops (listed.setIfInBounds i true) = [j]) (hgi : oi.guard = none) (hgj : oj.guard = none)
    (hal : (execOp a.eval oi).run P w = .ok (.value (.pointer (some ⟨w.heap.size, 0, none⟩))) (w.alloc (.cells z T)))
    (hc : ∀ w, S w → Calls P f args w fun e w' => ∃ x, e = .returned (val x) ∧ R x w' ∧ Below w.heap.size w w')
    (hrun : (execOp a.eval oj).run P w = .ok (.enter f args) w) (hrun2 : ∀ v w, (execOp (a.put di v).eval oj).run P w = .ok (.enter f args) w)
    (hS : S w) (hSb : ∀ w w', S w → Below w.heap.size w w' → S w')
    (hi2 : ∀ x g w2, S w2 → C x g w2 → wpAnyH P md ops Q S fuel ((listed.setIfInBounds i true).setIfInBounds j true) ((a.put di (.pointer (some ⟨g, 0, none⟩))).put dj (val x)) w2)
    (hj2 : ∀ x w2, S w2 → (∀ g w3, w2.heap.size ≤ g → Blk w3 g T z → Below w2.heap.size w2 w3 → S w3 → C x g w3) → wpAnyH P md ops Q S (fuel + 1) (listed.setIfInBounds j true) (a.put dj (val x)) w2)
    (hR : ∀ x w w', R x w → Below w.heap.size w w' → R x w')
    (h : ∀ x g w2, R x w2 → w.heap.size ≤ g → Blk w2 g T z → Below w.heap.size w w2 → S w2 → C x g w2) :
    wpAnyH P md ops Q S (fuel + 2) listed a w := by
  subst hdi hdj
  have hb1 : ∀ w : World, Below w.heap.size w (w.alloc (.cells z T)) := fun w => (Below.refl _ w).alloc (Nat.le_refl _) _
  refine wpAnyH_all rfl (by intro e; rw [e] at hne; cases hne) fun k hk => ?_
  have hk' := List.all_eq_true.1 hr k hk
  simp only [Bool.or_eq_true, beq_iff_eq] at hk'
  rcases hk' with rfl | rfl
  · unfold Go.wpOp
    simp only [hi]
    rw [if_pos (Region.unguarded hgi _)]
    left
    unfold Oper.wp
    rw [hal, Oper.upon_value]
    have hS1 := hSb _ _ hS (hb1 w)
    refine ⟨hS1, take_make (R := fun v w' => ∃ x, v = val x ∧ R x w' ∧ Below (w.alloc (.cells z T)).heap.size (w.alloc (.cells z T)) w') hj rfl hri hgj ((hc _ hS1).mono fun e w' he => ?_) (hrun2 _ _) fun v w2 hv => ?_⟩
    · obtain ⟨x, h1, h2, h3⟩ := he
      exact ⟨_, h1, x, rfl, h2, h3⟩
    · obtain ⟨x, rfl, hx, hb⟩ := hv
      have hb2 : Below w.heap.size w w2 := (hb1 w).trans (hb.mono (hb1 w).size)
      have hS2 := hSb _ _ hS hb2
      exact ⟨hS2, hi2 x _ w2 hS2 (h x _ w2 hx (Nat.le_refl _) ((Blk.new w T z).stays hb) hb2 hS2)⟩
  · unfold Go.wpOp
    simp only [hj]
    rw [if_pos (Region.unguarded hgj _)]
    left
    unfold Oper.wp
    rw [hrun]
    refine Calls.mono (hc w hS) fun e w2 he => ?_
    obtain ⟨x, rfl, hv, hb⟩ := he
    have hS2 := hSb _ _ hS hb
    exact ⟨hS2, hj2 x w2 hS2 fun g w3 hg hB hb3 hS3 => h x g w3 (hR _ _ _ hv hb3) (Nat.le_trans hb.size hg) hB (hb.trans (hb3.mono hb.size)) hS3⟩
end
end Go.Proofs.Ytahphlcahaheiaa
