/- A region whose order is open and whose last operations (Z) may break the condition on the world: S is asked behind all others alone. -/
import Derived.Test.YtahphlcahaheiaaTakeG
namespace Go.Proofs.Ytahphlcahaheiaa
open Go Go.RowKit

section
variable {P : Program} {ops : Array Oper} {Q : Exit → Act → World → Prop} {md : Region.Mode} {S : World → Prop} {Z : List Nat}

def wpAnyZ (P : Program) (md : Region.Mode) (ops : Array Oper) (Q : Exit → Act → World → Prop) (Z : List Nat) (S : World → Prop) : Nat → Array Bool → Act → World → Prop
  | 0, listed, a, w => Region.ready md ops listed = [] ∧ Q .normal a w
  | fuel + 1, listed, a, w =>
    (Region.ready md ops listed = [] → Q .normal a w) ∧
    ∀ i ∈ Region.ready md ops listed, wpOp P ops Q i (fun a' w' => (i ∈ Z ∨ S w') ∧ wpAnyZ P md ops Q Z S fuel (listed.setIfInBounds i true) a' w') a w
theorem wpAny_of_Z : ∀ (fuel : Nat) (listed : Array Bool) (a : Act) (w : World), wpAnyZ P md ops Q Z S fuel listed a w → wpAny P md ops Q fuel listed a w
  | 0, _, _, _, h => h
  | fuel + 1, _, _, _, h => ⟨h.1, fun i hi => wpOp_mono (fun a' w' h' => wpAny_of_Z fuel _ a' w' h'.2) (h.2 i hi)⟩
/-- z waits for i. -/
def waits (md : Region.Mode) (ops : Array Oper) (z i : Nat) : Prop := ∃ oz, ops[z]? = some oz ∧ ∃ e ∈ oz.after, Region.binds md e = true ∧ e.on = i
def waitsB (md : Region.Mode) (ops : Array Oper) (z i : Nat) : Bool := match ops[z]? with | some oz => oz.after.any (fun e => Region.binds md e && e.on == i) | none => false
theorem waits_of {z i : Nat} (h : waitsB md ops z i = true) : waits md ops z i := by
  unfold waitsB at h
  split at h
  · rename_i oz hz
    rw [Array.any_eq_true] at h
    obtain ⟨k, hk, h2⟩ := h
    simp only [Bool.and_eq_true, beq_iff_eq] at h2
    exact ⟨oz, hz, oz.after[k], Array.getElem_mem hk, h2.1, h2.2⟩
  · cases h
theorem takeZ_first {i : Nat} {oi : Oper} {v : Value} (hi : ops[i]? = some oi) (hsel : ∀ (j : Nat) (o : Oper) cs b, ops[j]? = some o → o.op ≠ .select cs b)
    (hQ : ∀ c a w, Q (.panic c) (a.put oi.dst v) w → Q (.panic c) a w) (fuel : Nat) : ∀ (listed : Array Bool) (a : Act) (w : World),
      (∀ j oj, ops[j]? = some oj → j ≠ i → listed.getD j true = false → (∀ e ∈ oj.after, Region.binds md e = true → e.on ≠ i) → oi.apart ops oj = true) →
      (∀ z ∈ Z, listed.getD z true = false → z ≠ i → waits md ops z i) →
      i ∈ Region.ready md ops listed → TakesIf P ops S oi v a → S w →
      wpAnyZ P md ops Q Z S fuel (listed.setIfInBounds i true) (a.put oi.dst v) w → wpAnyZ P md ops Q Z S (fuel + 1) listed a w := by
  induction fuel with
  | zero =>
    intro listed a w _ _ hr hy hS H
    refine ⟨fun h => (by rw [h] at hr; cases hr), fun j hj => ?_⟩
    by_cases hji : j = i
    · subst hji; exact hy.wpOp hi hS ⟨.inr hS, H⟩
    · have := ready_mono hj hji
      rw [H.1] at this; cases this
  | succ fuel ih =>
    intro listed a w hfree hZ hr hy hS H
    refine ⟨fun h => (by rw [h] at hr; cases hr), fun j hj => ?_⟩
    by_cases hji : j = i
    · subst hji; exact hy.wpOp hi hS ⟨.inr hS, H⟩
    have hgo := H.2 j (ready_mono hj hji)
    obtain ⟨hjun, oj, hoj, hall⟩ := mem_ready.1 hj
    have hnot : ∀ e ∈ oj.after, Region.binds md e = true → e.on ≠ i := fun e he hb heq => by
      have h1 := hall e he hb
      have h0 := (mem_ready.1 hr).1
      rw [heq] at h1
      rcases Nat.lt_or_ge i listed.size with h' | h'
      · simp [h'] at h0 h1; rw [h0] at h1; cases h1
      · simp [Array.getElem?_eq_none h'] at h1
    have hjZ : ¬ j ∈ Z := fun hz => by
      obtain ⟨oz, hoz, e, he, hb, hon⟩ := hZ j hz hjun hji
      rw [hoj] at hoz
      injection hoz with hoz
      subst hoz
      exact hnot e he hb hon
    have hpast := take_past hoj (hfree j oj hoj hji hjun hnot) (fun cs b => hsel i oi cs b hi) (fun cs b => hsel j oj cs b hoj) hQ hy hgo
    refine wpOp_mono (fun a' w' h3 => ?_) hpast
    have hSw : S w' := by
      rcases h3.2.1 with h | h
      · exact absurd h hjZ
      · exact h
    refine ⟨.inr hSw, ih (listed.setIfInBounds j true) a' w' (fun k ok hk hki hun hno => hfree k ok hk hki ?_ hno) (fun z hz hun hzi => hZ z hz ?_ hzi) (ready_mono hr (Ne.symm hji)) h3.1 hSw ?_⟩
    · by_cases hjk : j = k
      · subst hjk; exact hjun
      · rw [getD_set_ne true hjk] at hun; exact hun
    · by_cases hjk : j = z
      · subst hjk; exact hjun
      · rw [getD_set_ne true hjk] at hun; exact hun
    · rw [Array.setIfInBounds_comm _ _ hji]; exact h3.2.2
/-- All of Z that has not come up waits for i. -/
def zok (md : Region.Mode) (ops : Array Oper) (Z : List Nat) (listed : Array Bool) (i : Nat) : Bool := Z.all fun z => listed.getD z true || z == i || waitsB md ops z i
theorem zok_spec {listed : Array Bool} {i : Nat} (h : zok md ops Z listed i = true) : ∀ z ∈ Z, listed.getD z true = false → z ≠ i → waits md ops z i := by
  intro z hz hl hne
  have := List.all_eq_true.1 h z hz
  simp only [Bool.or_eq_true, beq_iff_eq] at this
  rcases this with (h1 | h1) | h1
  · rw [hl] at h1; cases h1
  · exact absurd h1 hne
  · exact waits_of h1
theorem zBegin {id : Nat} {a : Act} {w : World} (hm : P.follows .mixedOrders = true) (hQ : PQ Q) (hS : S w.drew)
    (h : PQ Q → ∀ wd, Below w.heap.size w wd → S wd → wpAnyZ P .any ops Q Z S ops.size (Array.replicate ops.size false) a wd) : (Code.region id ops true).wp P Q a w :=
  wp_region_any hm (wpAny_of_Z _ _ _ _ (h hQ _ (Below.refl _ _).drew hS))
theorem zVal {i : Nat} {oi : Oper} {d : Option Tmp} {v : Value} {fuel : Nat} {listed : Array Bool} {a : Act} {w : World} (hi : ops[i]? = some oi) (hd : oi.dst = d)
    (hs : Region.noSelect ops = true) (hf : Region.free md ops listed i = true) (hz : zok md ops Z listed i = true) (hr : (Region.ready md ops listed).contains i = true)
    (hQ : PQ Q) (hw : Region.wanted oi (yielded ops a.tmps) = true)
    (hrun : ∀ w, S w → (execOp a.eval oi).run P w = .ok (.value v) w) (hS : S w)
    (h : wpAnyZ P md ops Q Z S fuel (listed.setIfInBounds i true) (a.put d v) w) : wpAnyZ P md ops Q Z S (fuel + 1) listed a w := by
  subst hd
  exact takeZ_first hi (Region.noSelect_spec hs) (fun c a w => hQ c a _ _ w) fuel listed a w (Region.free_spec hi hf) (zok_spec hz) (by simpa using hr) ⟨hw, fun w hSw => by rw [hrun w hSw]; exact ⟨rfl, rfl⟩⟩ hS h
theorem zCall {i : Nat} {oi : Oper} {d : Option Tmp} {v : Value} {f : FuncId} {args : Array Value} {fuel : Nat} {listed : Array Bool} {a : Act} {w : World} (hi : ops[i]? = some oi) (hd : oi.dst = d)
    (hs : Region.noSelect ops = true) (hf : Region.free md ops listed i = true) (hz : zok md ops Z listed i = true) (hr : (Region.ready md ops listed).contains i = true)
    (hQ : PQ Q) (hw : Region.wanted oi (yielded ops a.tmps) = true)
    (hc : ∀ w, S w → Calls P f args w fun e w' => e = .returned v ∧ w' = w) (hrun : ∀ w, S w → (execOp a.eval oi).run P w = .ok (.enter f args) w) (hS : S w)
    (h : wpAnyZ P md ops Q Z S fuel (listed.setIfInBounds i true) (a.put d v) w) : wpAnyZ P md ops Q Z S (fuel + 1) listed a w := by
  subst hd
  exact takeZ_first hi (Region.noSelect_spec hs) (fun c a w => hQ c a _ _ w) fuel listed a w (Region.free_spec hi hf) (zok_spec hz) (by simpa using hr) ⟨hw, fun w hSw => by rw [hrun w hSw]; exact ⟨rfl, hc w hSw⟩⟩ hS h
theorem zAll {rs : List Nat} {fuel : Nat} {listed : Array Bool} {a : Act} {w : World} (hr : Region.ready md ops listed = rs) (hne : rs ≠ [])
    (h : ∀ i ∈ rs, wpOp P ops Q i (fun a' w' => (i ∈ Z ∨ S w') ∧ wpAnyZ P md ops Q Z S fuel (listed.setIfInBounds i true) a' w') a w) : wpAnyZ P md ops Q Z S (fuel + 1) listed a w :=
  ⟨fun h0 => absurd (hr.symm.trans h0) hne, fun i hi => h i (hr ▸ hi)⟩
/-- An operation alone: it yields v, and the world is w2; S is asked of w2 unless it is one of Z. -/
theorem zDo {j : Nat} {oj : Oper} {d : Option Tmp} {v : Value} {w2 : World} {fuel : Nat} {listed : Array Bool} {a : Act} {w : World} (hj : ops[j]? = some oj) (hd : oj.dst = d)
    (hr : Region.ready md ops listed = [j]) (hg : Region.wanted oj (yielded ops a.tmps) = true)
    (hrun : (execOp a.eval oj).run P w = .ok (.value v) w2 ∨ v = undef ∧ (execOp a.eval oj).run P w = .ok .skip w2) (hS : j ∈ Z ∨ S w2)
    (h : wpAnyZ P md ops Q Z S fuel (listed.setIfInBounds j true) (a.put d v) w2) : wpAnyZ P md ops Q Z S (fuel + 1) listed a w := by
  subst hd
  refine zAll hr (by simp) fun k hk => ?_
  obtain rfl : k = j := by simpa using hk
  unfold Go.wpOp
  simp only [hj]
  rw [if_pos hg]
  left
  unfold Oper.wp
  rcases hrun with hrun | ⟨rfl, hrun⟩
  · rw [hrun]; exact ⟨hS, h⟩
  · rw [hrun]; exact ⟨hS, h⟩
/-- A store alone. -/
theorem zStore {j : Nat} {oj : Oper} {w2 : World} {fuel : Nat} {listed : Array Bool} {a : Act} {w : World} (hj : ops[j]? = some oj) (hd : oj.dst = none)
    (hr : Region.ready md ops listed = [j]) (hg : Region.wanted oj (yielded ops a.tmps) = true)
    (hrun : (execOp a.eval oj).run P w = .ok .skip w2) (hS : j ∈ Z ∨ S w2)
    (h : wpAnyZ P md ops Q Z S fuel (listed.setIfInBounds j true) a w2) : wpAnyZ P md ops Q Z S (fuel + 1) listed a w :=
  zDo (d := none) (v := undef) hj hd hr hg (.inr ⟨rfl, hrun⟩) hS h
/-- A call that makes memory, alone, behind a guard or not. -/
theorem zMake {j : Nat} {oj : Oper} {d : Option Tmp} {f : FuncId} {args : Array Value} {R : Value → World → Prop} {fuel : Nat} {listed : Array Bool} {a : Act} {w : World} (hj : ops[j]? = some oj) (hd : oj.dst = d)
    (hr : Region.ready md ops listed = [j]) (hg : Region.wanted oj (yielded ops a.tmps) = true)
    (hc : Calls P f args w fun e w' => ∃ v, e = .returned v ∧ R v w') (hrun : (execOp a.eval oj).run P w = .ok (.enter f args) w)
    (h : ∀ v w2, R v w2 → S w2 ∧ wpAnyZ P md ops Q Z S fuel (listed.setIfInBounds j true) (a.put d v) w2) : wpAnyZ P md ops Q Z S (fuel + 1) listed a w := by
  subst hd
  refine zAll hr (by simp) fun k hk => ?_
  obtain rfl : k = j := by simpa using hk
  unfold Go.wpOp
  simp only [hj]
  rw [if_pos hg]
  left
  unfold Oper.wp
  rw [hrun]
  refine Calls.mono hc fun e w2 he => ?_
  obtain ⟨v, rfl, hR⟩ := he
  exact ⟨.inr (h v w2 hR).1, (h v w2 hR).2⟩
theorem zTwo {k i l : Nat} (h : k ∈ [i, l]) : k = i ∨ k = l := by simpa using h
/-- One of several that may come up yields v. -/
theorem zOp {j : Nat} {oj : Oper} {d : Option Tmp} {v : Value} {w2 : World} {K : Act → World → Prop} {a : Act} {w : World} (hj : ops[j]? = some oj) (hd : oj.dst = d) (hg : Region.wanted oj (yielded ops a.tmps) = true)
    (hrun : (execOp a.eval oj).run P w = .ok (.value v) w2) (h : K (a.put d v) w2) : wpOp P ops Q j K a w := by
  subst hd
  unfold Go.wpOp
  simp only [hj]
  rw [if_pos hg]
  left
  unfold Oper.wp
  rw [hrun]
  exact h
theorem zOpAppend {j : Nat} {oj : Oper} {d : Option Tmp} {s y : Operand} {t : TypeId} {vs vy v : Value} {w2 : World} {K : Act → World → Prop} {a : Act} {w : World} (hj : ops[j]? = some oj) (hd : oj.dst = d) (hg : Region.wanted oj (yielded ops a.tmps) = true)
    (hop : oj.op = .call { callee := .builtin .append, args := #[s, y], argTypes := #[t, t] }) (hs : a.eval s = vs) (hy : a.eval y = vy) (hrun : (Builtin.append_ #[t, t] oj.type #[vs, vy]).run P w = .ok v w2)
    (h : K (a.put d v) w2) : wpOp P ops Q j K a w :=
  zOp hj hd hg (by simp [execOp, hop, resolve, invoke, builtin, hs, hy, hrun, Result.andThen]) h
/-- An append alone. -/
theorem zAppend {j : Nat} {oj : Oper} {d : Option Tmp} {s y : Operand} {t : TypeId} {vs vy v : Value} {w2 : World} {fuel : Nat} {listed : Array Bool} {a : Act} {w : World} (hj : ops[j]? = some oj) (hd : oj.dst = d)
    (hr : Region.ready md ops listed = [j]) (hg : Region.wanted oj (yielded ops a.tmps) = true) (hop : oj.op = .call { callee := .builtin .append, args := #[s, y], argTypes := #[t, t] })
    (hs : a.eval s = vs) (hy : a.eval y = vy) (hrun : (Builtin.append_ #[t, t] oj.type #[vs, vy]).run P w = .ok v w2) (hS : j ∈ Z ∨ S w2)
    (h : wpAnyZ P md ops Q Z S fuel (listed.setIfInBounds j true) (a.put d v) w2) : wpAnyZ P md ops Q Z S (fuel + 1) listed a w :=
  zDo hj hd hr hg (.inl (by simp [execOp, hop, resolve, invoke, builtin, hs, hy, hrun, Result.andThen])) hS h
theorem zAlone {j : Nat} {fuel : Nat} {listed : Array Bool} {a : Act} {w : World} (hr : Region.ready md ops listed = [j])
    (h : wpOp P ops Q j (fun a' w' => (j ∈ Z ∨ S w') ∧ wpAnyZ P md ops Q Z S fuel (listed.setIfInBounds j true) a' w') a w) : wpAnyZ P md ops Q Z S (fuel + 1) listed a w :=
  zAll hr (by simp) fun k hk => by
    obtain rfl : k = j := by simpa using hk
    exact h
/-- An allocation: the new block is at g. -/
theorem zOpNew {j : Nat} {oj : Oper} {d : Option Tmp} {T : TypeId} {z : Array Value} {val : Nat → Value} {K : Act → World → Prop} {a : Act} {w : World} (hj : ops[j]? = some oj) (hd : oj.dst = d) (hg : Region.wanted oj (yielded ops a.tmps) = true)
    (hrun : (execOp a.eval oj).run P w = .ok (.value (val w.heap.size)) (w.alloc (.cells z T))) (h : ∀ g w2, w.heap.size ≤ g → g < w2.heap.size → Blk w2 g T z → Below w.heap.size w w2 → K (a.put d (val g)) w2) : wpOp P ops Q j K a w :=
  zOp hj hd hg hrun (h _ _ (Nat.le_refl _) (by simp) (Blk.new _ _ _) ((Below.refl _ w).alloc (Nat.le_refl _) _))
/-- An append, told by what is known of its result. -/
theorem zOpApp {j : Nat} {oj : Oper} {d : Option Tmp} {s y : Operand} {t : TypeId} {vs vy : Value} {R : Value → World → Prop} {K : Act → World → Prop} {a : Act} {w : World} (hj : ops[j]? = some oj) (hd : oj.dst = d) (hg : Region.wanted oj (yielded ops a.tmps) = true)
    (hop : oj.op = .call { callee := .builtin .append, args := #[s, y], argTypes := #[t, t] }) (hs : a.eval s = vs) (hy : a.eval y = vy) (hrun : ∃ v w2, (Builtin.append_ #[t, t] oj.type #[vs, vy]).run P w = .ok v w2 ∧ R v w2)
    (h : ∀ v w2, R v w2 → K (a.put d v) w2) : wpOp P ops Q j K a w := by
  obtain ⟨v, w2, hr, hR⟩ := hrun
  exact zOpAppend hj hd hg hop hs hy hr (h v w2 hR)
/-- A call, told by its contract. -/
theorem zOpCall {j : Nat} {oj : Oper} {d : Option Tmp} {f : FuncId} {args : Array Value} {R : Value → World → Prop} {K : Act → World → Prop} {a : Act} {w : World} (hj : ops[j]? = some oj) (hd : oj.dst = d) (hg : Region.wanted oj (yielded ops a.tmps) = true)
    (hrun : (execOp a.eval oj).run P w = .ok (.enter f args) w) (hc : Calls P f args w fun e w' => ∃ v, e = .returned v ∧ R v w') (h : ∀ v w2, R v w2 → K (a.put d v) w2) : wpOp P ops Q j K a w := by
  subst hd
  unfold Go.wpOp
  simp only [hj]
  rw [if_pos hg]
  left
  unfold Oper.wp
  rw [hrun]
  refine Calls.mono hc fun e w2 he => ?_
  obtain ⟨v, rfl, hR⟩ := he
  exact h v w2 hR
/-- A store. -/
theorem zOpStore {j : Nat} {oj : Oper} {w2 : World} {K : Act → World → Prop} {a : Act} {w : World} (hj : ops[j]? = some oj) (hd : oj.dst = none) (hg : Region.wanted oj (yielded ops a.tmps) = true)
    (hrun : (execOp a.eval oj).run P w = .ok .skip w2) (h : K a w2) : wpOp P ops Q j K a w := by
  unfold Go.wpOp
  simp only [hj]
  rw [if_pos hg]
  left
  unfold Oper.wp
  rw [hrun]
  show K (a.put oj.dst undef) w2
  rw [hd]
  exact h
theorem zDone {listed : Array Bool} {a : Act} {w : World} (hr : Region.ready md ops listed = []) (h : Q .normal a w) : ∀ fuel, wpAnyZ P md ops Q Z S fuel listed a w
  | 0 => ⟨hr, h⟩
  | _ + 1 => ⟨fun _ => h, fun i hi => by rw [hr] at hi; cases hi⟩
end
end Go.Proofs.Ytahphlcahaheiaa
