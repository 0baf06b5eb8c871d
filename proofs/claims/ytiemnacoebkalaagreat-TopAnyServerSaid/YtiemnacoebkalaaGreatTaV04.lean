import Derived.OrdersHeld
import Derived.Deep.RegionHeld
import Derived.Test.YtiemnacoebkalaaGreatTaV00
set_option linter.all false
set_option maxRecDepth 100000
set_option maxHeartbeats 4000000
namespace Go.Proofs.YtiemnacoebkalaaGreat
open Go Go.RowKit
section
variable {P : Program} {ops : Array Oper} {Q : Exit -> Act -> World -> Prop} {md : Region.Mode} {S : World -> Prop}
def Lands (P : Program) (v : Value) (w : World) : Result Next -> Prop
 | .ok (.value u) w' => u = v ∧ w' = w
 | .ok (.enter f args) w' => w' = w ∧ Calls P f args w fun e w'' => e = .returned v ∧ w'' = w
 | _ => False

def TakesIf (P : Program) (ops : Array Oper) (S : World -> Prop) (o : Oper) (v : Value) (a : Act) : Prop :=
 Region.wanted o (yielded ops a.tmps) = true ∧ ∀ w, S w -> Lands P v w ((execOp a.eval o).run P w)

theorem Lands.upon {v : Value} {w : World} {r : Result Next} (h : Lands P v w r) {o : Oper} {a : Act} {K : Act -> World -> Prop} (hK : K (a.put o.dst v) w) : o.upon P a K Q r := by
 cases r with
 | ok n w' =>
  cases n with
  | value u => obtain ⟨rfl, rfl⟩ := h; exact hK
  | enter f args =>
   obtain ⟨rfl, h⟩ := h; refine Calls.mono h fun e w'' he => ?_
   obtain ⟨rfl, rfl⟩ := he; exact hK
  | skip => exact h.elim
  | defer d => exact h.elim
  | row r args => exact h.elim
  | _ => exact h.elim
 | halt x w' => exact h.elim

theorem TakesIf.wpOp {i : Nat} {o : Oper} {v : Value} {a : Act} (hi : ops[i]? = some o) (hy : TakesIf P ops S o v a) {K : Act -> World -> Prop} {w : World} (hS : S w) (h : K (a.put o.dst v) w) :
    wpOp P ops Q i K a w := by
 unfold Go.wpOp; simp only [hi, hy.1, if_true]; exact .inl ((hy.2 w hS).upon h)

theorem TakesIf.same {o : Oper} {v : Value} {a a' : Act} (hy : TakesIf P ops S o v a) (he : execOp a'.eval o = execOp a.eval o)
    (hw : Region.wanted o (yielded ops a'.tmps) = Region.wanted o (yielded ops a.tmps)) : TakesIf P ops S o v a' := by
 unfold TakesIf at *; rw [he, hw]; exact hy

theorem take_past {j : Nat} {oi oj : Oper} {v : Value} (hj : ops[j]? = some oj) (hap : oi.apart ops oj = true)
    (hsi : ∀ cs b, oi.op ≠ .select cs b) (hsj : ∀ cs b, oj.op ≠ .select cs b)
    (hQ : ∀ c a w, Q (.panic c) (a.put oi.dst v) w -> Q (.panic c) a w) {K : Act -> World -> Prop} {a : Act} {w : World}
    (hy : TakesIf P ops S oi v a) (h : wpOp P ops Q j K (a.put oi.dst v) w) :
    wpOp P ops Q j (fun a' w' => TakesIf P ops S oi v a' ∧ K (a'.put oi.dst v) w') a w := by
 obtain ⟨h1, h2, h3⟩ := Oper.apart_spec hap; have keep : ∀ (b : Act), TakesIf P ops S oi v b -> ∀ u, TakesIf P ops S oi v (b.put oj.dst u) := fun b hb u =>
  hb.same (execOp_put oi hsi b oj.dst u h3) (wanted_put oi b oj.dst u h3)
 have keepD : ∀ d, TakesIf P ops S oi v { a with defers := d :: a.defers } := fun d => hy.same rfl rfl
 have turn : ∀ u, K ((a.put oi.dst v).put oj.dst u) w -> K ((a.put oj.dst u).put oi.dst v) w := fun u hk => by rw [<- Act.put_comm a v u h2]; exact hk
 unfold Go.wpOp at *; simp only [hj] at *; rw [wanted_put oj a oi.dst v h1] at h
 by_cases hw : Region.wanted oj (yielded ops a.tmps) = true
 · simp only [hw, if_true] at h ⊢; rcases h with h | ⟨hasks, hlets⟩
   · left
     unfold Oper.wp at *; rw [execOp_put oj hsj a oi.dst v h1] at h
     generalize (execOp a.eval oj).run P w = r at *
     cases r with
     | ok n w' =>
      cases n with
      | value u => exact ⟨keep a hy u, by rw [<- Act.put_comm a v u h2]; exact h⟩
      | skip => exact ⟨keep a hy _, by rw [<- Act.put_comm a v undef h2]; exact h⟩
      | defer d =>
       refine ⟨keep _ (keepD d) _, ?_⟩; rw [<- Act.put_comm _ v undef h2, <- Act.put_defers]; exact h
      | enter f args =>
       refine Calls.mono h fun e w'' he => ?_
       cases e with
       | returned u => exact ⟨keep a hy u, by rw [<- Act.put_comm a v u h2]; exact he⟩
       | panicked c => exact hQ _ _ _ he
       | outgrown => exact he
      | row r args => exact Rows.mono h fun u w'' he => ⟨keep a hy u, by rw [<- Act.put_comm a v u h2]; exact he⟩
      | _ => exact h.elim
     | halt x w' =>
      cases x with
      | panic u => exact hQ _ _ _ h
      | _ => exact h.elim
   · right
     exact ⟨by unfold Oper.asks at *; rw [execOp_put oj hsj a oi.dst v h1] at hasks; exact hasks, hlets⟩
 · simp only [hw, Bool.false_eq_true, if_false] at h ⊢; exact ⟨keep a hy _, by rw [<- Act.put_comm a v undef h2]; exact h⟩

theorem take_first {i : Nat} {oi : Oper} {v : Value} (hi : ops[i]? = some oi) (hsel : ∀ (j : Nat) (o : Oper) cs b, ops[j]? = some o -> o.op ≠ .select cs b)
    (hQ : ∀ c a w, Q (.panic c) (a.put oi.dst v) w -> Q (.panic c) a w) (fuel : Nat) : ∀ (listed : Array Bool) (a : Act) (w : World),
     (∀ j oj, ops[j]? = some oj -> j ≠ i -> listed.getD j true = false -> (∀ e ∈ oj.after, Region.binds md e = true -> e.on ≠ i) -> oi.apart ops oj = true) ->
     i ∈ Region.ready md ops listed -> TakesIf P ops S oi v a -> S w ->
     wpAnyH P md ops Q S fuel (listed.setIfInBounds i true) (a.put oi.dst v) w -> wpAnyH P md ops Q S (fuel + 1) listed a w := by
 induction fuel with
 | zero =>
  intro listed a w _ hr hy hS H; refine ⟨fun h => (by rw [h] at hr; cases hr), fun j hj => ?_⟩
  by_cases hji : j = i
  · subst hji; exact hy.wpOp hi hS ⟨hS, H⟩
  · have := ready_mono hj hji; rw [H.1] at this; cases this
 | succ fuel ih =>
  intro listed a w hfree hr hy hS H; refine ⟨fun h => (by rw [h] at hr; cases hr), fun j hj => ?_⟩
  by_cases hji : j = i
  · subst hji; exact hy.wpOp hi hS ⟨hS, H⟩
  have hgo := H.2 j (ready_mono hj hji); obtain ⟨hjun, oj, hoj, hall⟩ := mem_ready.1 hj; have hnot : ∀ e ∈ oj.after, Region.binds md e = true -> e.on ≠ i := fun e he hb heq => by
   have h1 := hall e he hb; have h0 := (mem_ready.1 hr).1; rw [heq] at h1; rcases Nat.lt_or_ge i listed.size with h' | h'
   · simp [h'] at h0 h1; rw [h0] at h1; cases h1
   · simp [Array.getElem?_eq_none h'] at h1
  have hpast := take_past hoj (hfree j oj hoj hji hjun hnot) (fun cs b => hsel i oi cs b hi) (fun cs b => hsel j oj cs b hoj) hQ hy hgo; refine wpOp_mono (fun a' w' h3 => ⟨h3.2.1, ih (listed.setIfInBounds j true) a' w' (fun k ok hk hki hun hno => hfree k ok hk hki ?_ hno) (ready_mono hr (Ne.symm hji)) h3.1 h3.2.1 ?_⟩) hpast
  · by_cases hjk : j = k
    · subst hjk; exact hjun
    · rw [getD_set_ne true hjk] at hun; exact hun
  · rw [Array.setIfInBounds_comm _ _ hji]; exact h3.2.2

def PQ (Q : Exit -> Act -> World -> Prop) : Prop := ∀ c (a : Act) d v w, Q (.panic c) (a.put d v) w -> Q (.panic c) a w
theorem PQ.then {K : Act -> World -> Prop} (h : PQ Q) : PQ (Exit.then K Q) := fun c a d v w => h c a d v w
theorem PQ.block {n : Nat} (h : PQ Q) : PQ (Exit.inBlock n Q) := fun c a d v w => h c a d v w
theorem take_start {id : Nat} {a : Act} {w : World} (hm : P.follows .mixedOrders = true) (hQ : PQ Q) (hS : S w.drew)
    (h : PQ Q -> S w.drew -> wpAnyH P .any ops Q S ops.size (Array.replicate ops.size false) a w.drew) : (Code.region id ops true).wp P Q a w := wp_region_held_drew hm hS (h hQ)
theorem take_val {i : Nat} {oi : Oper} {d : Option Tmp} {v : Value} {fuel : Nat} {listed : Array Bool} {a : Act} {w : World} (hi : ops[i]? = some oi) (hd : oi.dst = d)
    (hs : Region.noSelect ops = true) (hf : Region.free md ops listed i = true) (hr : (Region.ready md ops listed).contains i = true)
    (hQ : PQ Q) (hw : Region.wanted oi (yielded ops a.tmps) = true)
    (hrun : ∀ w, S w -> (execOp a.eval oi).run P w = .ok (.value v) w) (hS : S w)
    (h : wpAnyH P md ops Q S fuel (listed.setIfInBounds i true) (a.put d v) w) : wpAnyH P md ops Q S (fuel + 1) listed a w := by
 subst hd; exact wpAnyH_take hi hs hf hr (fun c a w => hQ c a _ _ w) (Or.inl ⟨hw, hrun⟩) hS h
theorem take_call {i : Nat} {oi : Oper} {d : Option Tmp} {v : Value} {f : FuncId} {args : Array Value} {fuel : Nat} {listed : Array Bool} {a : Act} {w : World} (hi : ops[i]? = some oi) (hd : oi.dst = d)
    (hs : Region.noSelect ops = true) (hf : Region.free md ops listed i = true) (hr : (Region.ready md ops listed).contains i = true)
    (hQ : PQ Q) (hw : Region.wanted oi (yielded ops a.tmps) = true)
    (hc : ∀ w, S w -> Calls P f args w fun e w' => e = .returned v ∧ w' = w) (hrun : ∀ w, S w -> (execOp a.eval oi).run P w = .ok (.enter f args) w) (hS : S w)
    (h : wpAnyH P md ops Q S fuel (listed.setIfInBounds i true) (a.put d v) w) : wpAnyH P md ops Q S (fuel + 1) listed a w := by
 subst hd; exact take_first hi (Region.noSelect_spec hs) (fun c a w => hQ c a _ _ w) fuel listed a w (Region.free_spec hi hf) (by simpa using hr) ⟨hw, fun w hSw => by rw [hrun w hSw]; exact ⟨rfl, hc w hSw⟩⟩ hS h
theorem Region.unguarded {o : Oper} (h : o.guard = none) (t : Nat -> Option Bool) : Region.wanted o t = true := by simp [Region.wanted, h]
theorem take_do {j : Nat} {oj : Oper} {d : Option Tmp} {v : Value} {w2 : World} {fuel : Nat} {listed : Array Bool} {a : Act} {w : World} (hj : ops[j]? = some oj) (hd : oj.dst = d)
    (hr : Region.ready md ops listed = [j]) (hg : oj.guard = none)
    (hrun : (execOp a.eval oj).run P w = .ok (.value v) w2 ∨ v = undef ∧ (execOp a.eval oj).run P w = .ok .skip w2) (hS : S w2)
    (h : wpAnyH P md ops Q S fuel (listed.setIfInBounds j true) (a.put d v) w2) : wpAnyH P md ops Q S (fuel + 1) listed a w := by
  subst hd; refine wpAnyH_all hr (by simp) fun k hk => ?_
  obtain rfl : k = j := by simpa using hk
  unfold Go.wpOp; simp only [hj]; rw [if_pos (Region.unguarded hg _)]
  left
  unfold Oper.wp; rcases hrun with hrun | ⟨rfl, hrun⟩
  · rw [hrun]; exact ⟨hS, h⟩
  · rw [hrun]; exact ⟨hS, h⟩
theorem take_make {j : Nat} {oj : Oper} {d : Option Tmp} {f : FuncId} {args : Array Value} {R : Value -> World -> Prop} {fuel : Nat} {listed : Array Bool} {a : Act} {w : World} (hj : ops[j]? = some oj) (hd : oj.dst = d)
    (hr : Region.ready md ops listed = [j]) (hg : oj.guard = none)
    (hc : Calls P f args w fun e w' => ∃ v, e = .returned v ∧ R v w') (hrun : (execOp a.eval oj).run P w = .ok (.enter f args) w)
    (h : ∀ v w2, R v w2 -> S w2 ∧ wpAnyH P md ops Q S fuel (listed.setIfInBounds j true) (a.put d v) w2) : wpAnyH P md ops Q S (fuel + 1) listed a w := by
 subst hd; refine wpAnyH_all hr (by simp) fun k hk => ?_
 obtain rfl : k = j := by simpa using hk
 unfold Go.wpOp; simp only [hj]; rw [if_pos (Region.unguarded hg _)]
 left
 unfold Oper.wp; rw [hrun]; refine Calls.mono hc fun e w2 he => ?_
 obtain ⟨v, rfl, hR⟩ := he; exact h v w2 hR
theorem relist {fuel : Nat} {L L' : Array Bool} {a : Act} {w : World} (h : L = L') (k : wpAnyH P md ops Q S fuel L' a w) : wpAnyH P md ops Q S fuel L a w := h ▸ k
theorem take_alloc {i : Nat} {oi : Oper} {di : Option Tmp} {T : TypeId} {z : Array Value} {fuel : Nat} {listed : Array Bool} {a : Act} {w : World} (hi : ops[i]? = some oi) (hdi : oi.dst = di)
    (hr : Region.ready md ops listed = [i]) (hg : oi.guard = none)
    (hal : (execOp a.eval oi).run P w = .ok (.value (.pointer (some ⟨w.heap.size, 0, none⟩))) (w.alloc (.cells z T))) (hSb : ∀ w', Below w.heap.size w w' -> S w')
    (h : ∀ g w2, w.heap.size <= g -> Blk w2 g T z -> Below w.heap.size w w2 -> S w2 -> wpAnyH P md ops Q S fuel (listed.setIfInBounds i true) (a.put di (.pointer (some ⟨g, 0, none⟩))) w2) : wpAnyH P md ops Q S (fuel + 1) listed a w := by
 have hb : Below w.heap.size w (w.alloc (.cells z T)) := (Below.refl _ w).alloc (Nat.le_refl _) _; exact take_do hi hdi hr hg (.inl hal) (hSb _ hb) (h _ _ (Nat.le_refl _) (Blk.new _ _ _) hb (hSb _ hb))
theorem take_fork {α : Type} {i j : Nat} {oi oj : Oper} {di dj : Option Tmp} {T : TypeId} {z : Array Value} {f : FuncId} {args : Array Value} {val : α -> Value} {R : α -> World -> Prop} {C : α -> Nat -> World -> Prop} {fuel : Nat} {listed : Array Bool} {a : Act} {w : World}
    (hi : ops[i]? = some oi) (hdi : oi.dst = di) (hj : ops[j]? = some oj) (hdj : oj.dst = dj) (hr : (Region.ready md ops listed).all (fun k => k == i || k == j) = true) (hne : (Region.ready md ops listed).isEmpty = false)
    (hri : Region.ready md ops (listed.setIfInBounds i true) = [j]) (hgi : oi.guard = none) (hgj : oj.guard = none)
    (hal : (execOp a.eval oi).run P w = .ok (.value (.pointer (some ⟨w.heap.size, 0, none⟩))) (w.alloc (.cells z T)))
    (hc : ∀ w, S w -> Calls P f args w fun e w' => ∃ x, e = .returned (val x) ∧ R x w' ∧ Below w.heap.size w w')
    (hrun : (execOp a.eval oj).run P w = .ok (.enter f args) w) (hrun2 : ∀ v w, (execOp (a.put di v).eval oj).run P w = .ok (.enter f args) w)
    (hS : S w) (hSb : ∀ w w', S w -> Below w.heap.size w w' -> S w')
    (hi2 : ∀ x g w2, S w2 -> C x g w2 -> wpAnyH P md ops Q S fuel ((listed.setIfInBounds i true).setIfInBounds j true) ((a.put di (.pointer (some ⟨g, 0, none⟩))).put dj (val x)) w2)
    (hj2 : ∀ x w2, S w2 -> (∀ g w3, w2.heap.size <= g -> Blk w3 g T z -> Below w2.heap.size w2 w3 -> S w3 -> C x g w3) -> wpAnyH P md ops Q S (fuel + 1) (listed.setIfInBounds j true) (a.put dj (val x)) w2)
    (hR : ∀ x w w', R x w -> Below w.heap.size w w' -> R x w')
    (h : ∀ x g w2, R x w2 -> w.heap.size <= g -> Blk w2 g T z -> Below w.heap.size w w2 -> S w2 -> C x g w2) :
    wpAnyH P md ops Q S (fuel + 2) listed a w := by
 subst hdi hdj; have hb1 : ∀ w : World, Below w.heap.size w (w.alloc (.cells z T)) := fun w => (Below.refl _ w).alloc (Nat.le_refl _) _
 refine wpAnyH_all rfl (by intro e; rw [e] at hne; cases hne) fun k hk => ?_
 have hk' := List.all_eq_true.1 hr k hk; simp only [Bool.or_eq_true, beq_iff_eq] at hk'; rcases hk' with rfl | rfl
 · unfold Go.wpOp; simp only [hi]; rw [if_pos (Region.unguarded hgi _)]
   left
   unfold Oper.wp; rw [hal, Oper.upon_value]; have hS1 := hSb _ _ hS (hb1 w); refine ⟨hS1, take_make (R := fun v w' => ∃ x, v = val x ∧ R x w' ∧ Below (w.alloc (.cells z T)).heap.size (w.alloc (.cells z T)) w') hj rfl hri hgj ((hc _ hS1).mono fun e w' he => ?_) (hrun2 _ _) fun v w2 hv => ?_⟩
   · obtain ⟨x, h1, h2, h3⟩ := he; exact ⟨_, h1, x, rfl, h2, h3⟩
   · obtain ⟨x, rfl, hx, hb⟩ := hv; have hb2 : Below w.heap.size w w2 := (hb1 w).trans (hb.mono (hb1 w).size); have hS2 := hSb _ _ hS hb2; exact ⟨hS2, hi2 x _ w2 hS2 (h x _ w2 hx (Nat.le_refl _) ((Blk.new w T z).stays hb) hb2 hS2)⟩
 · unfold Go.wpOp; simp only [hj]; rw [if_pos (Region.unguarded hgj _)]
   left
   unfold Oper.wp; rw [hrun]; refine Calls.mono (hc w hS) fun e w2 he => ?_
   obtain ⟨x, rfl, hv, hb⟩ := he; have hS2 := hSb _ _ hS hb; exact ⟨hS2, hj2 x w2 hS2 fun g w3 hg hB hb3 hS3 => h x g w3 (hR _ _ _ hv hb3) (Nat.le_trans hb.size hg) hB (hb.trans (hb3.mono hb.size)) hS3⟩
end
section
variable {P : Program} {md : Region.Mode} {ops : Array Oper} {Q : Exit → Act → World → Prop} {S : World → Prop}
theorem qv {i : Nat} {oi : Oper} {d : Option Tmp} {v : Value} {fuel : Nat} {listed : Array Bool} {a : Act} {w : World} (hi : ops[i]? = some oi) (hd : oi.dst = d) (hk : (Region.noSelect ops && (Region.free md ops listed i && ((Region.ready md ops listed).contains i && Region.wanted oi (yielded ops a.tmps)))) = true) (hQ : PQ Q) (hrun : ∀ w, S w → (execOp a.eval oi).run P w = .ok (.value v) w) (hS : S w)
    (h : wpAnyH P md ops Q S fuel (listed.setIfInBounds i true) (a.put d v) w) : wpAnyH P md ops Q S (fuel + 1) listed a w := by
  simp only [Bool.and_eq_true] at hk
  exact take_val hi hd hk.1 hk.2.1 hk.2.2.1 hQ hk.2.2.2 hrun hS h
end
section
variable {P : Program} {ops : Array Oper} {Q : Exit -> Act -> World -> Prop} {md : Region.Mode} {S : World -> Prop} {Z : List Nat}
def wpAnyZ (P : Program) (md : Region.Mode) (ops : Array Oper) (Q : Exit -> Act -> World -> Prop) (Z : List Nat) (S : World -> Prop) : Nat -> Array Bool -> Act -> World -> Prop
 | 0, listed, a, w => Region.ready md ops listed = [] ∧ Q .normal a w
 | fuel + 1, listed, a, w =>
  (Region.ready md ops listed = [] -> Q .normal a w) ∧
  ∀ i ∈ Region.ready md ops listed, wpOp P ops Q i (fun a' w' => (i ∈ Z ∨ S w') ∧ wpAnyZ P md ops Q Z S fuel (listed.setIfInBounds i true) a' w') a w
theorem wpAny_of_Z : ∀ (fuel : Nat) (listed : Array Bool) (a : Act) (w : World), wpAnyZ P md ops Q Z S fuel listed a w -> wpAny P md ops Q fuel listed a w
 | 0, _, _, _, h => h
 | fuel + 1, _, _, _, h => ⟨h.1, fun i hi => wpOp_mono (fun a' w' h' => wpAny_of_Z fuel _ a' w' h'.2) (h.2 i hi)⟩
def waits (md : Region.Mode) (ops : Array Oper) (z i : Nat) : Prop := ∃ oz, ops[z]? = some oz ∧ ∃ e ∈ oz.after, Region.binds md e = true ∧ e.on = i
def waitsB (md : Region.Mode) (ops : Array Oper) (z i : Nat) : Bool := match ops[z]? with | some oz => oz.after.any (fun e => Region.binds md e && e.on == i) | none => false
theorem waits_of {z i : Nat} (h : waitsB md ops z i = true) : waits md ops z i := by
 unfold waitsB at h
 split at h
 · rename_i oz hz; rw [Array.any_eq_true] at h; obtain ⟨k, hk, h2⟩ := h; simp only [Bool.and_eq_true, beq_iff_eq] at h2; exact ⟨oz, hz, oz.after[k], Array.getElem_mem hk, h2.1, h2.2⟩
 · cases h
theorem takeZ_first {i : Nat} {oi : Oper} {v : Value} (hi : ops[i]? = some oi) (hsel : ∀ (j : Nat) (o : Oper) cs b, ops[j]? = some o -> o.op ≠ .select cs b)
    (hQ : ∀ c a w, Q (.panic c) (a.put oi.dst v) w -> Q (.panic c) a w) (fuel : Nat) : ∀ (listed : Array Bool) (a : Act) (w : World),
     (∀ j oj, ops[j]? = some oj -> j ≠ i -> listed.getD j true = false -> (∀ e ∈ oj.after, Region.binds md e = true -> e.on ≠ i) -> oi.apart ops oj = true) ->
     (∀ z ∈ Z, listed.getD z true = false -> z ≠ i -> waits md ops z i) ->
     i ∈ Region.ready md ops listed -> TakesIf P ops S oi v a -> S w ->
     wpAnyZ P md ops Q Z S fuel (listed.setIfInBounds i true) (a.put oi.dst v) w -> wpAnyZ P md ops Q Z S (fuel + 1) listed a w := by
 induction fuel with
 | zero =>
  intro listed a w _ _ hr hy hS H; refine ⟨fun h => (by rw [h] at hr; cases hr), fun j hj => ?_⟩
  by_cases hji : j = i
  · subst hji; exact hy.wpOp hi hS ⟨.inr hS, H⟩
  · have := ready_mono hj hji; rw [H.1] at this; cases this
 | succ fuel ih =>
  intro listed a w hfree hZ hr hy hS H; refine ⟨fun h => (by rw [h] at hr; cases hr), fun j hj => ?_⟩
  by_cases hji : j = i
  · subst hji; exact hy.wpOp hi hS ⟨.inr hS, H⟩
  have hgo := H.2 j (ready_mono hj hji); obtain ⟨hjun, oj, hoj, hall⟩ := mem_ready.1 hj; have hnot : ∀ e ∈ oj.after, Region.binds md e = true -> e.on ≠ i := fun e he hb heq => by
   have h1 := hall e he hb; have h0 := (mem_ready.1 hr).1; rw [heq] at h1; rcases Nat.lt_or_ge i listed.size with h' | h'
   · simp [h'] at h0 h1; rw [h0] at h1; cases h1
   · simp [Array.getElem?_eq_none h'] at h1
  have hjZ : ¬ j ∈ Z := fun hz => by
   obtain ⟨oz, hoz, e, he, hb, hon⟩ := hZ j hz hjun hji; rw [hoj] at hoz; injection hoz with hoz
   subst hoz; exact hnot e he hb hon
  have hpast := take_past hoj (hfree j oj hoj hji hjun hnot) (fun cs b => hsel i oi cs b hi) (fun cs b => hsel j oj cs b hoj) hQ hy hgo; refine wpOp_mono (fun a' w' h3 => ?_) hpast; have hSw : S w' := by
   rcases h3.2.1 with h | h
   · exact absurd h hjZ
   · exact h
  refine ⟨.inr hSw, ih (listed.setIfInBounds j true) a' w' (fun k ok hk hki hun hno => hfree k ok hk hki ?_ hno) (fun z hz hun hzi => hZ z hz ?_ hzi) (ready_mono hr (Ne.symm hji)) h3.1 hSw ?_⟩
  · by_cases hjk : j = k
    · subst hjk; exact hjun
    · rw [getD_set_ne true hjk] at hun; exact hun
  · by_cases hjk : j = z
    · subst hjk; exact hjun
    · rw [getD_set_ne true hjk] at hun; exact hun
  · rw [Array.setIfInBounds_comm _ _ hji]; exact h3.2.2
def zok (md : Region.Mode) (ops : Array Oper) (Z : List Nat) (listed : Array Bool) (i : Nat) : Bool := Z.all fun z => listed.getD z true || z == i || waitsB md ops z i
theorem zok_spec {listed : Array Bool} {i : Nat} (h : zok md ops Z listed i = true) : ∀ z ∈ Z, listed.getD z true = false -> z ≠ i -> waits md ops z i := by
 intro z hz hl hne; have := List.all_eq_true.1 h z hz; simp only [Bool.or_eq_true, beq_iff_eq] at this; rcases this with (h1 | h1) | h1
 · rw [hl] at h1; cases h1
 · exact absurd h1 hne
 · exact waits_of h1
theorem zBegin {id : Nat} {a : Act} {w : World} (hm : P.follows .mixedOrders = true) (hQ : PQ Q) (hS : S w.drew)
    (h : PQ Q -> ∀ wd, Below w.heap.size w wd -> S wd -> wpAnyZ P .any ops Q Z S ops.size (Array.replicate ops.size false) a wd) : (Code.region id ops true).wp P Q a w :=
 wp_region_any hm (wpAny_of_Z _ _ _ _ (h hQ _ (Below.refl _ _).drew hS))
theorem zVal {i : Nat} {oi : Oper} {d : Option Tmp} {v : Value} {fuel : Nat} {listed : Array Bool} {a : Act} {w : World} (hi : ops[i]? = some oi) (hd : oi.dst = d)
    (hs : Region.noSelect ops = true) (hf : Region.free md ops listed i = true) (hz : zok md ops Z listed i = true) (hr : (Region.ready md ops listed).contains i = true)
    (hQ : PQ Q) (hw : Region.wanted oi (yielded ops a.tmps) = true)
    (hrun : ∀ w, S w -> (execOp a.eval oi).run P w = .ok (.value v) w) (hS : S w)
    (h : wpAnyZ P md ops Q Z S fuel (listed.setIfInBounds i true) (a.put d v) w) : wpAnyZ P md ops Q Z S (fuel + 1) listed a w := by
 subst hd; exact takeZ_first hi (Region.noSelect_spec hs) (fun c a w => hQ c a _ _ w) fuel listed a w (Region.free_spec hi hf) (zok_spec hz) (by simpa using hr) ⟨hw, fun w hSw => by rw [hrun w hSw]; exact ⟨rfl, rfl⟩⟩ hS h
theorem zCall {i : Nat} {oi : Oper} {d : Option Tmp} {v : Value} {f : FuncId} {args : Array Value} {fuel : Nat} {listed : Array Bool} {a : Act} {w : World} (hi : ops[i]? = some oi) (hd : oi.dst = d)
    (hs : Region.noSelect ops = true) (hf : Region.free md ops listed i = true) (hz : zok md ops Z listed i = true) (hr : (Region.ready md ops listed).contains i = true)
    (hQ : PQ Q) (hw : Region.wanted oi (yielded ops a.tmps) = true)
    (hc : ∀ w, S w -> Calls P f args w fun e w' => e = .returned v ∧ w' = w) (hrun : ∀ w, S w -> (execOp a.eval oi).run P w = .ok (.enter f args) w) (hS : S w)
    (h : wpAnyZ P md ops Q Z S fuel (listed.setIfInBounds i true) (a.put d v) w) : wpAnyZ P md ops Q Z S (fuel + 1) listed a w := by
 subst hd; exact takeZ_first hi (Region.noSelect_spec hs) (fun c a w => hQ c a _ _ w) fuel listed a w (Region.free_spec hi hf) (zok_spec hz) (by simpa using hr) ⟨hw, fun w hSw => by rw [hrun w hSw]; exact ⟨rfl, hc w hSw⟩⟩ hS h
theorem zAll {rs : List Nat} {fuel : Nat} {listed : Array Bool} {a : Act} {w : World} (hr : Region.ready md ops listed = rs) (hne : rs ≠ [])
    (h : ∀ i ∈ rs, wpOp P ops Q i (fun a' w' => (i ∈ Z ∨ S w') ∧ wpAnyZ P md ops Q Z S fuel (listed.setIfInBounds i true) a' w') a w) : wpAnyZ P md ops Q Z S (fuel + 1) listed a w :=
 ⟨fun h0 => absurd (hr.symm.trans h0) hne, fun i hi => h i (hr ▸ hi)⟩
theorem zOp {j : Nat} {oj : Oper} {d : Option Tmp} {v : Value} {w2 : World} {K : Act -> World -> Prop} {a : Act} {w : World} (hj : ops[j]? = some oj) (hd : oj.dst = d) (hg : Region.wanted oj (yielded ops a.tmps) = true)
    (hrun : (execOp a.eval oj).run P w = .ok (.value v) w2) (h : K (a.put d v) w2) : wpOp P ops Q j K a w := by
 subst hd; unfold Go.wpOp; simp only [hj]; rw [if_pos hg]
 left
 unfold Oper.wp; rw [hrun]; exact h
theorem zOpAppend {j : Nat} {oj : Oper} {d : Option Tmp} {s y : Operand} {t : TypeId} {vs vy v : Value} {w2 : World} {K : Act -> World -> Prop} {a : Act} {w : World} (hj : ops[j]? = some oj) (hd : oj.dst = d) (hg : Region.wanted oj (yielded ops a.tmps) = true)
    (hop : oj.op = .call { callee := .builtin .append, args := #[s, y], argTypes := #[t, t] }) (hs : a.eval s = vs) (hy : a.eval y = vy) (hrun : (Builtin.append_ #[t, t] oj.type #[vs, vy]).run P w = .ok v w2)
    (h : K (a.put d v) w2) : wpOp P ops Q j K a w :=
 zOp hj hd hg (by simp [execOp, hop, resolve, invoke, builtin, hs, hy, hrun, Result.andThen]) h
theorem zAlone {j : Nat} {fuel : Nat} {listed : Array Bool} {a : Act} {w : World} (hr : Region.ready md ops listed = [j])
    (h : wpOp P ops Q j (fun a' w' => (j ∈ Z ∨ S w') ∧ wpAnyZ P md ops Q Z S fuel (listed.setIfInBounds j true) a' w') a w) : wpAnyZ P md ops Q Z S (fuel + 1) listed a w :=
 zAll hr (by simp) fun k hk => by
  obtain rfl : k = j := by simpa using hk
  exact h
theorem zOpApp {j : Nat} {oj : Oper} {d : Option Tmp} {s y : Operand} {t : TypeId} {vs vy : Value} {R : Value -> World -> Prop} {K : Act -> World -> Prop} {a : Act} {w : World} (hj : ops[j]? = some oj) (hd : oj.dst = d) (hg : Region.wanted oj (yielded ops a.tmps) = true)
    (hop : oj.op = .call { callee := .builtin .append, args := #[s, y], argTypes := #[t, t] }) (hs : a.eval s = vs) (hy : a.eval y = vy) (hrun : ∃ v w2, (Builtin.append_ #[t, t] oj.type #[vs, vy]).run P w = .ok v w2 ∧ R v w2)
    (h : ∀ v w2, R v w2 -> K (a.put d v) w2) : wpOp P ops Q j K a w := by
 obtain ⟨v, w2, hr, hR⟩ := hrun; exact zOpAppend hj hd hg hop hs hy hr (h v w2 hR)
theorem zOpCall {j : Nat} {oj : Oper} {d : Option Tmp} {f : FuncId} {args : Array Value} {R : Value -> World -> Prop} {K : Act -> World -> Prop} {a : Act} {w : World} (hj : ops[j]? = some oj) (hd : oj.dst = d) (hg : Region.wanted oj (yielded ops a.tmps) = true)
    (hrun : (execOp a.eval oj).run P w = .ok (.enter f args) w) (hc : Calls P f args w fun e w' => ∃ v, e = .returned v ∧ R v w') (h : ∀ v w2, R v w2 -> K (a.put d v) w2) : wpOp P ops Q j K a w := by
 subst hd; unfold Go.wpOp; simp only [hj]; rw [if_pos hg]
 left
 unfold Oper.wp; rw [hrun]; refine Calls.mono hc fun e w2 he => ?_
 obtain ⟨v, rfl, hR⟩ := he; exact h v w2 hR
theorem zDone {listed : Array Bool} {a : Act} {w : World} (hr : Region.ready md ops listed = []) (h : Q .normal a w) : ∀ fuel, wpAnyZ P md ops Q Z S fuel listed a w
 | 0 => ⟨hr, h⟩
 | _ + 1 => ⟨fun _ => h, fun i hi => by rw [hr] at hi; cases hi⟩
end
section
variable {P : Program} {ops : Array Oper} {Q : Exit -> Act -> World -> Prop} {md : Region.Mode} {Z : List Nat}
theorem arr_getD (L : Array Bool) (i : Nat) (d : Bool) : L.getD i d = (L[i]?).getD d := by
 unfold Array.getD
 split
 · rename_i h; rw [Array.getElem?_eq_getElem h]; rfl
 · rename_i h; rw [Array.getElem?_eq_none (by omega)]; rfl
theorem arr_set_ne {L : Array Bool} {i k : Nat} (h : k ≠ i) (d : Bool) : (L.setIfInBounds i true).getD k d = L.getD k d := by
 rw [arr_getD, arr_getD, Array.getElem?_setIfInBounds_ne (Ne.symm h)]
def undone (L : Array Bool) : Nat := (L.toList.filter (fun b => !b)).length
theorem undone_list : ∀ (l : List Bool) (i : Nat), l.getD i true = false -> ((l.set i true).filter (fun b => !b)).length + 1 = (l.filter (fun b => !b)).length
  | [], i, h => by simp at h
  | b :: l, 0, h => by simp at h; subst h; simp
  | b :: l, i + 1, h => by
   have := undone_list l i (by simpa using h)
   cases b <;> simp_all
theorem undone_set {L : Array Bool} {i : Nat} (h : L.getD i true = false) : undone (L.setIfInBounds i true) + 1 = undone L := by
 unfold undone; rw [Array.toList_setIfInBounds]; refine undone_list _ i ?_; rw [<- h, arr_getD, List.getD_eq_getElem?_getD, Array.getElem?_toList]
theorem undone_none {L : Array Bool} (h : undone L = 0) (i : Nat) : L.getD i true = true := by
 cases hb : L.getD i true with
 | true => rfl
 | false => have := undone_set hb; omega
def downB (md : Region.Mode) (ops : Array Oper) : Bool := (List.range ops.size).all fun i => match ops[i]? with | some o => o.after.all (fun e => !Region.binds md e || decide (e.on < i)) | none => true
theorem downB_spec (h : downB md ops = true) {i : Nat} {o : Oper} (ho : ops[i]? = some o) : ∀ e ∈ o.after, Region.binds md e = true -> e.on < i := by
 intro e he hb; have hi : i < ops.size := (Array.getElem?_eq_some_iff.1 ho).1; have := List.all_eq_true.1 h i (List.mem_range.2 hi); rw [ho] at this; have h2 := Array.all_eq_true_iff_forall_mem.1 this e he
 simpa [hb] using h2
theorem ready_none (hd : downB md ops = true) {L : Array Bool} (hs : L.size = ops.size) (h : Region.ready md ops L = []) : ∀ i, i < ops.size -> L.getD i false = true := by
 intro i
 induction i using Nat.strongRecOn with
 | ind i ih =>
  intro hi
  cases hb : L.getD i false with
  | true => rfl
  | false =>
   exfalso; have hmem : i ∈ Region.ready md ops L := by
    refine mem_ready.2 ⟨?_, ops[i], Array.getElem?_eq_getElem hi, fun e he hbd => ?_⟩
    · rw [<- hb]; simp [Array.getD, hs, hi]
    · have hlt := downB_spec hd (Array.getElem?_eq_getElem hi) e he hbd; exact ih e.on hlt (by omega)
   rw [h] at hmem; cases hmem
theorem ready_un {L : Array Bool} {i : Nat} (h : i ∈ Region.ready md ops L) : L.getD i true = false := (mem_ready.1 h).1
theorem ready_lt {L : Array Bool} {i : Nat} (h : i ∈ Region.ready md ops L) : i < ops.size := by
 obtain ⟨o, ho, _⟩ := (mem_ready.1 h).2; exact (Array.getElem?_eq_some_iff.1 ho).1
theorem ready_dep {L : Array Bool} {i : Nat} (h : i ∈ Region.ready md ops L) {k : Nat} (hw : waitsB md ops i k = true) : L.getD k false = true := by
 obtain ⟨o, ho, hall⟩ := (mem_ready.1 h).2; obtain ⟨oz, hoz, e, he, hb, hon⟩ := waits_of hw; rw [ho] at hoz; injection hoz with hoz
 subst hoz; rw [<- hon]; exact hall e he hb
theorem not_ready {L : Array Bool} {i : Nat} (h : i ∈ Region.ready md ops L) (hd : L.getD i false = true) : False := by
 have h1 := ready_un h; rcases Nat.lt_or_ge i L.size with h' | h'
 · simp [Array.getD, h'] at h1 hd; rw [h1] at hd; cases hd
 · simp [Array.getD, Nat.not_lt.2 h'] at hd
theorem done_set {L : Array Bool} {i k : Nat} (h : (L.setIfInBounds i true).getD k false = true) : k = i ∨ L.getD k false = true := by
 by_cases e : k = i
 · exact .inl e
 · exact .inr (by rw [<- h, arr_set_ne e])
theorem done_keep {L : Array Bool} {i k : Nat} (h : L.getD k false = true) : (L.setIfInBounds i true).getD k false = true := by
 by_cases e : k = i
 · subst e; rcases Nat.lt_or_ge k L.size with h' | h'
   · simp [Array.getD, h']
   · simp [Array.getD, Nat.not_lt.2 h'] at h
 · rw [arr_set_ne e]; exact h
theorem undone_other {L : Array Bool} {i k : Nat} (hne : k ≠ i) (h : L.getD k false = false) : (L.setIfInBounds i true).getD k false = false := by
 rw [arr_set_ne hne]; exact h
end
section
variable {P : Program} {ops : Array Oper} {Q : Exit -> Act -> World -> Prop} {md : Region.Mode} {M : Nat} {w0 : World}
structure Spec where
 R : Value -> World -> Prop
 pure : Bool
 eats : List Nat
instance : Inhabited Spec := ⟨⟨fun _ _ => True, true, []⟩⟩

def Does (P : Program) (ops : Array Oper) (o : Oper) (a : Act) (w : World) (R : Value -> World -> Prop) : Prop :=
 (Region.wanted o (yielded ops a.tmps) = true ∧ match (execOp a.eval o).run P w with
  | .ok (.value u) w' => R u w'
  | .ok (.enter f args) w' => Calls P f args w' fun e w'' => ∃ u, e = .returned u ∧ R u w''
  | _ => False) ∨ (Region.wanted o (yielded ops a.tmps) = false ∧ R undef w)
theorem Does.wpOp {i : Nat} {o : Oper} {a : Act} {w : World} {R : Value -> World -> Prop} (hi : ops[i]? = some o) (h : Does P ops o a w R) {K : Act -> World -> Prop} (hK : ∀ u w', R u w' -> K (a.put o.dst u) w') : wpOp P ops Q i K a w := by
 unfold Go.wpOp; simp only [hi]; rcases h with ⟨hw, h⟩ | ⟨hw, h⟩
 · rw [if_pos hw]
   left
   unfold Oper.wp
   generalize (execOp a.eval o).run P w = r at h ⊢
   cases r with
   | ok n w' =>
    cases n with
    | value u => exact hK u w' h
    | enter f args =>
     refine Calls.mono h fun e w'' he => ?_
     obtain ⟨u, rfl, hR⟩ := he; exact hK u w'' hR
    | _ => exact h.elim
   | halt x w' => exact h.elim
 · rw [if_neg (by rw [hw]; decide)]; exact hK _ _ h
def Keeps (w0 : World) (s : Spec) (w w' : World) : Prop := if s.eats = [] then Below w.heap.size w w' else Below w0.heap.size w w'
def Known (w0 : World) (s : Spec) (v : Value) (x w : World) : Prop := if s.pure = true then s.R v w0 else s.R v x ∧ Below x.heap.size x w

inductive Anc (md : Region.Mode) (ops : Array Oper) : Nat -> Nat -> Prop
 | one {j i : Nat} : waitsB md ops j i = true -> Anc md ops j i
 | more {j k i : Nat} : waitsB md ops j k = true -> Anc md ops k i -> Anc md ops j i
def maskOf (md : Region.Mode) (ops : Array Oper) (m : Nat) (ms : List Nat) : Nat -> Nat
 | 0 => 0
 | k + 1 => if waitsB md ops m k = true then maskOf md ops m ms k ||| (ms.getD k 0 ||| 1 <<< k) else maskOf md ops m ms k
def ancL (md : Region.Mode) (ops : Array Oper) : Nat -> List Nat
 | 0 => []
 | m + 1 => (fun ms => ms ++ [maskOf md ops m ms m]) (ancL md ops m)
def waitsW (md : Region.Mode) (ops : Array Oper) (j i : Nat) : Bool := ((ancL md ops ops.size).getD j 0).testBit i
theorem ancL_length (md : Region.Mode) (ops : Array Oper) : ∀ m, (ancL md ops m).length = m
 | 0 => rfl
 | m + 1 => by show (ancL md ops m ++ [_]).length = m + 1; rw [List.length_append, ancL_length md ops m]; rfl
theorem maskOf_anc {m : Nat} {ms : List Nat} (h : ∀ k i, (ms.getD k 0).testBit i = true -> Anc md ops k i) : ∀ n i, (maskOf md ops m ms n).testBit i = true -> Anc md ops m i
 | 0, i, hb => by simp [maskOf] at hb
 | n + 1, i, hb => by
  unfold maskOf at hb
  split at hb
  · rename_i hw; simp only [Nat.testBit_or, Bool.or_eq_true] at hb; rcases hb with hb | hb | hb
    · exact maskOf_anc h n i hb
    · exact .more hw (h n i hb)
    · rw [Nat.one_shiftLeft, Nat.testBit_two_pow] at hb; obtain rfl := of_decide_eq_true hb; exact .one hw
  · exact maskOf_anc h n i hb
theorem ancL_anc : ∀ m k i, ((ancL md ops m).getD k 0).testBit i = true -> Anc md ops k i
 | 0, k, i, hb => by simp [ancL] at hb
 | m + 1, k, i, hb => by
  have e : ancL md ops (m + 1) = ancL md ops m ++ [maskOf md ops m (ancL md ops m) m] := rfl; rw [e, List.getD_eq_getElem?_getD] at hb; rcases Nat.lt_trichotomy k m with h | h | h
  · rw [List.getElem?_append_left (by rw [ancL_length]; exact h), <- List.getD_eq_getElem?_getD] at hb; exact ancL_anc m k i hb
  · subst h; rw [List.getElem?_append_right (by rw [ancL_length]; exact Nat.le_refl _), ancL_length, Nat.sub_self] at hb; exact maskOf_anc (fun k' i' => ancL_anc _ k' i') _ _ hb
  · rw [List.getElem?_eq_none (by rw [List.length_append, ancL_length]; exact (h : m + 1 <= k))] at hb; simp at hb
theorem waitsW_anc {j i : Nat} (h : waitsW md ops j i = true) : Anc md ops j i := ancL_anc _ _ _ h
theorem Anc.lt (hd : downB md ops = true) {j i : Nat} (h : Anc md ops j i) : i < j := by
 have one : ∀ {j i : Nat}, waitsB md ops j i = true -> i < j := fun {j i} hw => by
  obtain ⟨oz, hoz, e', he, hbd, hon⟩ := waits_of hw; have := downB_spec hd hoz e' he hbd; omega
 induction h with
 | one hw => exact one hw
 | more hw _ ih => have := one hw; omega
theorem Anc.done {L : Array Bool} (hcl : ∀ k j, L.getD k false = true -> waitsB md ops k j = true -> L.getD j false = true) {j i : Nat} (h : Anc md ops j i) (hj : L.getD j false = true) : L.getD i false = true := by
 induction h with
 | one hw => exact hcl _ _ hj hw
 | more hw _ ih => exact ih (hcl _ _ hj hw)
theorem Anc.ready {L : Array Bool} (hcl : ∀ k j, L.getD k false = true -> waitsB md ops k j = true -> L.getD j false = true) {j i : Nat} (h : Anc md ops j i) (hj : j ∈ Region.ready md ops L) : L.getD i false = true := by
 cases h with
 | one hw => exact ready_dep hj hw
 | more hw h2 => exact h2.done hcl (ready_dep hj hw)
def avail (md : Region.Mode) (ops : Array Oper) (all : List Spec) (i k : Nat) : Bool := waitsW md ops i k && (List.range all.length).all fun j => decide (j = i) || !((all.getD j default).eats.contains k) || waitsW md ops j i
def lasts (all : List Spec) (k : Nat) : Bool := (List.range all.length).all fun j => !((all.getD j default).eats.contains k)
def Steps (P : Program) (ops : Array Oper) (w0 : World) (AV : Nat -> Nat -> Bool) (AL : Nat -> Bool) (K : Act -> World -> Prop) : List Spec -> Nat -> Act -> (Nat -> World -> Prop) -> Prop
 | [], _, a, H => ∀ w, Below w0.heap.size w0 w -> (∀ k, AL k = true -> H k w) -> K a w
 | s :: r, i, a, H =>
  (s.pure = true -> ∃ v, s.R v w0) ∧
  (∀ o, ops[i]? = some o -> ∀ w, Below w0.heap.size w0 w -> (∀ k, AV i k = true -> H k w) -> Does P ops o a w fun u w' => (if s.pure = true then s.R u w0 else s.R u w') ∧ Keeps w0 s w w') ∧
  ∀ o, ops[i]? = some o -> ∀ v x, (s.pure = true -> s.R v w0) -> Steps P ops w0 AV AL K r (i + 1) (a.put o.dst v) (fun k w => if k = i then Known w0 s v x w else H k w)

def dstOf (ops : Array Oper) (k : Nat) : Option Tmp := (ops.getD k default).dst
def fillN (ops : Array Oper) (a0 : Act) (L : Nat -> Bool) (vs : Nat -> Value) : Nat -> Act
 | 0 => a0
 | m + 1 => if L m = true then (fillN ops a0 L vs m).put (dstOf ops m) (vs m) else fillN ops a0 L vs m
def HofN (w0 : World) (sp : Nat -> Spec) (vs : Nat -> Value) (xs : Nat -> World) : Nat -> Nat -> World -> Prop
 | 0 => fun _ _ => True
 | i + 1 => fun k w => if k = i then Known w0 (sp i) (vs i) (xs i) w else HofN w0 sp vs xs i k w
theorem HofN_of {w0 : World} {sp : Nat -> Spec} {vs : Nat -> Value} {xs : Nat -> World} : ∀ (i k : Nat) (w : World), (k < i -> Known w0 (sp k) (vs k) (xs k) w) -> HofN w0 sp vs xs i k w
 | 0, _, _, _ => trivial
 | i + 1, k, w, h => by
  unfold HofN
  by_cases e : k = i
  · subst e; rw [if_pos rfl]; exact h (by omega)
  · rw [if_neg e]; exact HofN_of i k w fun hk => h (by omega)
def Agr (T : List Tmp) (a a' : Act) : Prop := ∀ t ∈ T, a.tmps[t]? = a'.tmps[t]?
theorem Agr.put {T : List Tmp} {a a' : Act} (h : Agr T a a') (d : Option Tmp) (v : Value) (hs : a.tmps.size = a'.tmps.size) : Agr T (a.put d v) (a'.put d v) := by
 cases d with
 | none => exact h
 | some d =>
  intro t ht; simp only [Act.put, Array.getElem?_setIfInBounds]; rw [h t ht, hs]
theorem Agr.left {T : List Tmp} {a a' : Act} (h : Agr T a a') (d : Option Tmp) (v : Value) (hd : ∀ t, d = some t -> t ∉ T) : Agr T (a.put d v) a' := by
 cases d with
 | none => exact h
 | some d =>
  intro t ht; have hne : d ≠ t := fun e => hd d rfl (e ▸ ht)
  simp only [Act.put, Array.getElem?_setIfInBounds_ne hne]; exact h t ht
theorem Agr.right {T : List Tmp} {a a' : Act} (h : Agr T a a') (d : Option Tmp) (v : Value) (hd : ∀ t, d = some t -> t ∉ T) : Agr T a (a'.put d v) := by
 cases d with
 | none => exact h
 | some d =>
  intro t ht; have hne : d ≠ t := fun e => hd d rfl (e ▸ ht)
  simp only [Act.put, Array.getElem?_setIfInBounds_ne hne]; exact h t ht
theorem put_size (a : Act) (d : Option Tmp) (v : Value) : (a.put d v).tmps.size = a.tmps.size := by
 cases d <;> simp [Act.put]
theorem fillN_size (a0 : Act) (L : Nat -> Bool) (vs : Nat -> Value) : ∀ m, (fillN ops a0 L vs m).tmps.size = a0.tmps.size
 | 0 => rfl
 | m + 1 => by unfold fillN; split <;> simp [put_size, fillN_size a0 L vs m]
theorem agr_eval {T : List Tmp} {o : Oper} {a a' : Act} (h : Agr T a a') (hT : ∀ t ∈ o.looksAt ops, t ∈ T) (hs : ∀ cs b, o.op ≠ .select cs b) : execOp a.eval o = execOp a'.eval o :=
 execOp_congr o hs fun x hx => by
  cases x with
  | tmp t =>
   have := h t (hT t (List.mem_append_left _ (List.mem_filterMap.2 ⟨.tmp t, by simpa using hx, rfl⟩))); simp only [Act.eval, Array.getD_eq_getD_getElem?, this]
  | _ => rfl
theorem agr_wanted {T : List Tmp} {o : Oper} {a a' : Act} (h : Agr T a a') (hT : ∀ t ∈ o.looksAt ops, t ∈ T) : Region.wanted o (yielded ops a.tmps) = Region.wanted o (yielded ops a'.tmps) := by
 unfold Region.wanted
 cases hg : o.guard with
 | none => rfl
 | some gw =>
  obtain ⟨g, want⟩ := gw; have hy : yielded ops a.tmps g = yielded ops a'.tmps g := by
   unfold yielded
   cases ht : (ops[g]?).bind (·.dst) with
   | none => rfl
   | some t =>
    have := h t (hT t (by simp [Oper.looksAt, hg, ht])); simp [this]
  simp only [hy]
theorem Does.agr {T : List Tmp} {o : Oper} {a a' : Act} {w : World} {R : Value -> World -> Prop} (h : Does P ops o a w R) (ha : Agr T a' a) (hT : ∀ t ∈ o.looksAt ops, t ∈ T) (hs : ∀ cs b, o.op ≠ .select cs b) : Does P ops o a' w R := by
 unfold Does at *; rw [agr_eval ha hT hs, agr_wanted ha hT]; exact h
theorem fillN_succ (a0 : Act) (L : Nat -> Bool) (vs : Nat -> Value) (m : Nat) : fillN ops a0 L vs (m + 1) = if L m = true then (fillN ops a0 L vs m).put (dstOf ops m) (vs m) else fillN ops a0 L vs m := rfl
theorem agrFill {T : List Tmp} {a0 : Act} {L : Nat -> Bool} {vs : Nat -> Value} {M i : Nat} (hT : ∀ k, k < M -> ∀ t, dstOf ops k = some t -> t ∈ T -> k < i ∧ L k = true) (hi : i <= M) : Agr T (fillN ops a0 L vs M) (fillN ops a0 (fun _ => true) vs i) := by
 have h1 : ∀ m, m <= i -> Agr T (fillN ops a0 L vs m) (fillN ops a0 (fun _ => true) vs m) := by
  intro m
  induction m with
  | zero => exact fun _ t _ => rfl
  | succ m ih =>
   intro hm; have h := ih (by omega); unfold fillN; rw [if_pos rfl]
   split
   · exact h.put _ _ (by rw [fillN_size, fillN_size])
   · rename_i hL; exact h.right _ _ fun t hd ht => hL (hT m (by omega) t hd ht).2
 have h2 : ∀ d, i + d <= M -> Agr T (fillN ops a0 L vs (i + d)) (fillN ops a0 (fun _ => true) vs i) := by
  intro d
  induction d with
  | zero => exact fun _ => h1 i (Nat.le_refl _)
  | succ d ih =>
   intro hm; have h := ih (by omega)
   show Agr T (fillN ops a0 L vs (i + d + 1)) _
   rw [fillN_succ]
   split
   · exact h.left _ _ fun t hd ht => by have := (hT (i + d) (by omega) t hd ht).1; omega
   · exact h
 have := h2 (M - i) (by omega)
 rwa [show i + (M - i) = M by omega] at this
def upd {α : Type} (f : Nat -> α) (i : Nat) (x : α) : Nat -> α := fun k => if k = i then x else f k
theorem upd_same {α : Type} (f : Nat -> α) (i : Nat) (x : α) : upd f i x i = x := if_pos rfl
theorem upd_ne {α : Type} (f : Nat -> α) {i k : Nat} (x : α) (h : k ≠ i) : upd f i x k = f k := if_neg h
theorem fillN_set {a0 : Act} {L L' : Nat -> Bool} {vs : Nat -> Value} {M i : Nat} {u : Value} (hL : L i = false) (hi' : L' i = true) (hne : ∀ k, k ≠ i -> L' k = L k) (hiM : i < M)
    (hd : ∀ k, k < M -> k ≠ i -> ∀ t, dstOf ops k = some t -> dstOf ops i ≠ some t) : fillN ops a0 L' (upd vs i u) M = (fillN ops a0 L vs M).put (dstOf ops i) u := by
 have h1 : ∀ m, m <= i -> fillN ops a0 L' (upd vs i u) m = fillN ops a0 L vs m := by
  intro m
  induction m with
  | zero => exact fun _ => rfl
  | succ m ih =>
   intro hm; have h := ih (by omega); unfold fillN; rw [h, hne m (by omega), upd_ne _ _ (by omega)]
 have h2 : ∀ d, i + 1 + d <= M -> fillN ops a0 L' (upd vs i u) (i + 1 + d) = (fillN ops a0 L vs (i + 1 + d)).put (dstOf ops i) u := by
  intro d
  induction d with
  | zero =>
   intro _
   show fillN ops a0 L' (upd vs i u) (i + 1) = (fillN ops a0 L vs (i + 1)).put (dstOf ops i) u
   unfold fillN; rw [hL, hi', if_pos rfl, if_neg (by decide), h1 i (Nat.le_refl _), upd_same]
  | succ d ih =>
   intro hm; have h := ih (by omega)
   show fillN ops a0 L' (upd vs i u) (i + 1 + d + 1) = (fillN ops a0 L vs (i + 1 + d + 1)).put (dstOf ops i) u
   unfold fillN; rw [h, hne (i + 1 + d) (by omega), upd_ne _ _ (by omega)]
   split
   · exact (Act.put_comm _ _ _ fun t ht => hd (i + 1 + d) (by omega) (by omega) t ht).symm
   · rfl
 have := h2 (M - (i + 1)) (by omega)
 rwa [show i + 1 + (M - (i + 1)) = M by omega] at this
theorem stepsAt {AV : Nat -> Nat -> Bool} {AL : Nat -> Bool} {all : List Spec} {K : Act -> World -> Prop} {a0 : Act} (hn : all.length <= ops.size) (h : Steps P ops w0 AV AL K all 0 a0 (fun _ _ => True)) (vs : Nat -> Value) (xs : Nat -> World) : ∀ i, i <= all.length ->
    (∀ k, k < i -> (all.getD k default).pure = true -> (all.getD k default).R (vs k) w0) -> Steps P ops w0 AV AL K (all.drop i) i (fillN ops a0 (fun _ => true) vs i) (HofN w0 (fun k => all.getD k default) vs xs i)
  | 0, _, _ => h
  | i + 1, hi, hv => by
   have ih := stepsAt hn h vs xs i (by omega) (fun k hk => hv k (by omega)); rw [List.drop_eq_getElem_cons (by omega : i < all.length)] at ih; have e : (all.getD i default) = all[i] := by simp [List.getD, List.getElem?_eq_getElem (by omega : i < all.length)]
   have ho : ops[i]? = some (ops.getD i default) := by simp [Array.getD, (by omega : i < ops.size)]
   have hvi := hv i (by omega); rw [e] at hvi; have h2 := ih.2.2 _ ho (vs i) (xs i) hvi
   show Steps P ops w0 AV AL K (all.drop (i + 1)) (i + 1) ((fillN ops a0 (fun _ => true) vs i).put (dstOf ops i) (vs i)) (fun k w => if k = i then Known w0 (all.getD i default) (vs i) (xs i) w else HofN w0 (fun k => all.getD k default) vs xs i k w)
   rw [e]; exact h2
theorem steps_inh {AV : Nat -> Nat -> Bool} {AL : Nat -> Bool} {all : List Spec} {K : Act -> World -> Prop} {a0 : Act} (hn : all.length <= ops.size) (h : Steps P ops w0 AV AL K all 0 a0 (fun _ _ => True)) : ∀ i, i <= all.length ->
    ∃ vs : Nat -> Value, ∀ k, k < i -> (all.getD k default).pure = true -> (all.getD k default).R (vs k) w0
  | 0, _ => ⟨fun _ => undef, fun k hk => by omega⟩
  | i + 1, hi => by
   obtain ⟨vs, hv⟩ := steps_inh hn h i (by omega); have ih := stepsAt hn h vs (fun _ => w0) i (by omega) hv; rw [List.drop_eq_getElem_cons (by omega : i < all.length)] at ih; have e : (all.getD i default) = all[i] := by simp [List.getD, List.getElem?_eq_getElem (by omega : i < all.length)]
   by_cases hp : all[i].pure = true
   · obtain ⟨v, hvv⟩ := ih.1 hp; refine ⟨upd vs i v, fun k hk hkp => ?_⟩
     by_cases hki : k = i
     · subst hki; rw [upd_same, e]; exact hvv
     · rw [upd_ne _ _ hki]; exact hv k (by omega) hkp
   · refine ⟨vs, fun k hk hkp => ?_⟩
     by_cases hki : k = i
     · subst hki; rw [e] at hkp; exact (hp hkp).elim
     · exact hv k (by omega) hkp
def monoOk (md : Region.Mode) (ops : Array Oper) (all : List Spec) : Bool :=
 downB md ops && (Region.noSelect ops && (decide (all.length <= ops.size) && (
 ((List.range all.length).all fun i => (List.range all.length).all fun k =>
     (match dstOf ops k with
      | some t => (decide (k = i) || dstOf ops i != some t) && (!((ops.getD i default).looksAt ops).contains t || waitsW md ops i k)
      | none => true) &&
     ((all.getD i default).eats.isEmpty || (decide (k = i) || ((all.getD i default).eats.contains k || (waitsW md ops k i || (all.getD k default).pure)))) &&
     true) &&
 ((List.range ops.size).all fun j => decide (j < all.length) || (List.range all.length).all fun i => waitsW md ops j i))))
def listedM (M n : Nat) : Array Bool := Array.replicate M true ++ Array.replicate (n - M) false
theorem undone_listedM (M n : Nat) : undone (listedM M n) = n - M := by
 unfold undone listedM; rw [Array.toList_append, Array.toList_replicate, Array.toList_replicate, List.filter_append, List.filter_replicate, List.filter_replicate]; simp
theorem listedM_of {L : Array Bool} {M n : Nat} (hM : M <= n) (hs : L.size = n) (h1 : ∀ k, k < M -> L.getD k false = true) (h2 : ∀ k, M <= k -> k < n -> L.getD k false = false) : L = listedM M n := by
 unfold listedM; apply Array.ext
 · simp; omega
 · intro i hi hi2
   by_cases h : i < M
   · have := h1 i h; simp [Array.getD, hi] at this; rw [this, Array.getElem_append_left (by simpa using h)]; simp
   · have := h2 i (by omega) (by omega); simp [Array.getD, hi] at this; rw [this, Array.getElem_append_right (by simpa using (by omega : M <= i))]; simp
theorem zMono {a0 : Act} {all : List Spec} {K : Act -> World -> Prop} (hok : monoOk md ops all = true) (hS : Steps P ops w0 (avail md ops all) (lasts all) K all 0 a0 (fun _ _ => True))
    (hK : ∀ a w, K a w -> wpAny P md ops Q (ops.size - all.length) (listedM all.length ops.size) a w) : wpAny P md ops Q ops.size (Array.replicate ops.size false) a0 w0 := by
  unfold monoOk at hok; simp only [Bool.and_eq_true] at hok; obtain ⟨hdown, hsel, hlen, hpair, htail⟩ := hok; have hlen := of_decide_eq_true hlen; have hsel' := fun j o cs b => Region.noSelect_spec hsel j o cs b
  have HP : ∀ i, i < all.length -> ∀ k, k < all.length ->
      (∀ t, dstOf ops k = some t -> (k ≠ i -> dstOf ops i ≠ some t) ∧ (t ∈ (ops.getD i default).looksAt ops -> waitsW md ops i k = true)) ∧
      ((all.getD i default).eats = [] ∨ k = i ∨ k ∈ (all.getD i default).eats ∨ waitsW md ops k i = true ∨ (all.getD k default).pure = true) := by
   intro i hi k hk; have h := List.all_eq_true.1 (List.all_eq_true.1 hpair i (List.mem_range.2 hi)) k (List.mem_range.2 hk); simp only [Bool.and_eq_true] at h; obtain ⟨⟨h1, h2⟩, _⟩ := h; refine ⟨fun t ht => ?_, ?_⟩
   · rw [ht] at h1; simp only [Bool.and_eq_true, Bool.or_eq_true, decide_eq_true_eq, bne_iff_ne, ne_eq, Bool.not_eq_true'] at h1; exact ⟨fun hne => h1.1.resolve_left hne, fun hm => h1.2.resolve_left (by rw [List.contains_iff_mem.2 hm]; decide)⟩
   · simp only [Bool.or_eq_true, decide_eq_true_eq, List.isEmpty_iff, List.contains_iff_mem] at h2; exact h2
  have HT : ∀ j, all.length <= j -> j < ops.size -> ∀ i, i < all.length -> waitsW md ops j i = true := by
   intro j hj hj2 i hi; have h := List.all_eq_true.1 htail j (List.mem_range.2 hj2); simp only [Bool.or_eq_true, decide_eq_true_eq] at h; exact List.all_eq_true.1 (h.resolve_left (by omega)) i (List.mem_range.2 hi)
  have key : ∀ (fuel : Nat) (L : Array Bool) (a : Act) (w : World), L.size = ops.size -> (∀ j, all.length <= j -> j < ops.size -> L.getD j false = false) -> undone L = fuel ->
      (∃ (vs : Nat -> Value) (xs : Nat -> World), a = fillN ops a0 (fun k => L.getD k false) vs all.length ∧ (∀ k, k < all.length -> (all.getD k default).pure = true -> (all.getD k default).R (vs k) w0) ∧ Below w0.heap.size w0 w ∧ ∀ k, k < all.length -> L.getD k false = true -> (∀ j, j < all.length -> L.getD j false = true -> k ∉ (all.getD j default).eats) -> Known w0 (all.getD k default) (vs k) (xs k) w) ->
      (∀ k j, L.getD k false = true -> waitsB md ops k j = true -> L.getD j false = true) ->
      wpAny P md ops Q fuel L a w := by
   intro fuel
   induction fuel with
   | zero =>
    intro L a w hs hM hu hI hcl; have hall : ∀ i, i < ops.size -> L.getD i false = true := fun i hi => by
     have := undone_none hu i; rw [<- this]; simp [Array.getD, hs, hi]
    have hMn : all.length = ops.size := by
     rcases Nat.lt_or_ge all.length ops.size with h | h
     · have h1 := hM all.length (Nat.le_refl _) h; rw [hall _ h] at h1; cases h1
     · omega
    obtain ⟨vs, xs, ha, hvp, hb, hkn⟩ := hI; have eL : L = listedM all.length ops.size := listedM_of hlen hs (fun k hk => hall k (by omega)) (fun k h1 h2 => by omega); have hst := stepsAt hlen hS vs xs all.length (Nat.le_refl _) hvp; rw [List.drop_length] at hst; have hfin := hst w hb fun k hl => HofN_of _ _ _ fun hk => hkn k hk (hall k (by omega)) fun j hj _ hm => by
     have := List.all_eq_true.1 hl j (List.mem_range.2 hj); simp only [Bool.not_eq_true', ] at this; rw [List.contains_iff_mem.2 hm] at this; cases this
    have hfill : a = fillN ops a0 (fun _ => true) vs all.length := by
     rw [ha]; have : ∀ m, m <= all.length -> fillN ops a0 (fun k => L.getD k false) vs m = fillN ops a0 (fun _ => true) vs m := by
      intro m
      induction m with
      | zero => exact fun _ => rfl
      | succ m ih => intro hm; unfold fillN; rw [ih (by omega), hall m (by omega)]
     exact this _ (Nat.le_refl _)
    rw [<- hfill] at hfin; have := hK a w hfin; rw [<- eL, show ops.size - all.length = 0 by omega] at this; exact this
   | succ fuel ih =>
    intro L a w hs hM hu hI hcl
    by_cases hdone : ∀ k, k < all.length -> L.getD k false = true
    · obtain ⟨vs, xs, ha, hvp, hb, hkn⟩ := hI; have eL : L = listedM all.length ops.size := listedM_of hlen hs hdone hM; have hst := stepsAt hlen hS vs xs all.length (Nat.le_refl _) hvp; rw [List.drop_length] at hst; have hfin := hst w hb fun k hl => HofN_of _ _ _ fun hk => hkn k hk (hdone k hk) fun j hj _ hm => by
       have := List.all_eq_true.1 hl j (List.mem_range.2 hj); simp only [Bool.not_eq_true', ] at this; rw [List.contains_iff_mem.2 hm] at this; cases this
      have hfill : a = fillN ops a0 (fun _ => true) vs all.length := by
       rw [ha]; have : ∀ m, m <= all.length -> fillN ops a0 (fun k => L.getD k false) vs m = fillN ops a0 (fun _ => true) vs m := by
        intro m
        induction m with
        | zero => exact fun _ => rfl
        | succ m ih => intro hm; unfold fillN; rw [ih (by omega), hdone m (by omega)]
       exact this _ (Nat.le_refl _)
      rw [<- hfill] at hfin; have := hK a w hfin; rw [<- eL, show ops.size - all.length = fuel + 1 by rw [<- undone_listedM all.length ops.size, <- eL, hu]] at this; exact this
    · refine ⟨fun hr => (hdone fun k hk => ready_none hdown hs hr k (by omega)).elim, fun i hi => ?_⟩; have hin := ready_lt hi; have hiM : i < all.length := by
       rcases Nat.lt_or_ge i all.length with h | h
       · exact h
       · exact (hdone fun k hk => (waitsW_anc (HT i h hin k hk)).ready hcl hi).elim
      have hiF : L.getD i false = false := by
       cases h : L.getD i false with
       | false => rfl
       | true => exact (not_ready hi h).elim
      obtain ⟨vs, xs, ha, hvp, hb, hkn⟩ := hI; have hst := stepsAt hlen hS vs xs i (by omega) (fun k hk => hvp k (by omega)); rw [List.drop_eq_getElem_cons hiM] at hst; have e : (all.getD i default) = all[i] := by simp [List.getD, List.getElem?_eq_getElem hiM]
      rw [<- e] at hst; have ho : ops[i]? = some (ops.getD i default) := by simp [Array.getD, hin]
      have hdo := hst.2.1 _ ho w hb fun k hav => HofN_of _ _ _ fun hk => by
       unfold avail at hav; simp only [Bool.and_eq_true] at hav; refine hkn k (by omega) ((waitsW_anc hav.1).ready hcl hi) fun j hj hjd hm => ?_
       have := List.all_eq_true.1 hav.2 j (List.mem_range.2 hj); simp only [Bool.or_eq_true, decide_eq_true_eq, Bool.not_eq_true'] at this; rcases this with (h | h) | h
       · subst h; rw [hiF] at hjd; cases hjd
       · rw [List.contains_iff_mem.2 hm] at h; cases h
       · have h9 := (waitsW_anc h).done hcl hjd; rw [hiF] at h9; cases h9
      have hagr : Agr ((ops.getD i default).looksAt ops) a (fillN ops a0 (fun _ => true) vs i) := by
       rw [ha]; refine agrFill (fun k hk t hd ht => ?_) (by omega); have hw := ((HP i hiM k hk).1 t hd).2 ht; exact ⟨(waitsW_anc hw).lt hdown, (waitsW_anc hw).ready hcl hi⟩
      have hdo2 := hdo.agr hagr (fun t ht => ht) (fun cs b => hsel' i _ cs b ho); refine hdo2.wpOp ho fun u w' hR => ?_
      have hu2 := undone_set (ready_un hi); refine ih _ _ w' (by simpa using hs) (fun j hj hj2 => ?_) (by omega) ⟨upd vs i u, upd xs i w', ?_, fun k hk hkp => ?_, ?_, fun k hk hkd hne => ?_⟩ (fun k j hk hw => ?_)
      · exact undone_other (by omega) (hM j hj hj2)
      · rw [ha]; refine (fillN_set hiF ?_ (fun k hk => arr_set_ne hk false) hiM fun k hk hki t ht => ((HP i hiM k hk).1 t ht).1 hki).symm; simp [Array.getD, hs, hin]
      · by_cases hki : k = i
        · subst hki; rw [upd_same]; have h1 := hR.1; rw [if_pos hkp] at h1; exact h1
        · rw [upd_ne _ _ hki]; exact hvp k hk hkp
      · have hk := hR.2; unfold Keeps at hk
        split at hk
        · exact hb.trans (hk.mono hb.size)
        · exact hb.trans hk
      · rcases done_set hkd with rfl | hkd'
        · rw [upd_same, upd_same]; unfold Known; have h1 := hR.1
          split
          · rename_i hp; rw [if_pos hp] at h1; exact h1
          · rename_i hp; rw [if_neg hp] at h1; exact ⟨h1, Below.refl _ _⟩
        · have hki : k ≠ i := fun h => by subst h; rw [hiF] at hkd'; cases hkd'
          rw [upd_ne _ _ hki, upd_ne _ _ hki]; have h0 := hkn k hk hkd' fun j hj hjd => hne j hj (done_keep hjd)
          unfold Known at h0 ⊢
          split
          · rename_i hp; rw [if_pos hp] at h0; exact h0
          · rename_i hp; rw [if_neg hp] at h0; refine ⟨h0.1, ?_⟩; have hkp := hR.2; unfold Keeps at hkp
            split at hkp
            · exact h0.2.trans (hkp.mono h0.2.size)
            · rename_i hea; exfalso; rcases (HP i hiM k hk).2 with h | h | h | h | h
              · exact hea h
              · exact hki h
              · refine hne i hiM ?_ h; simp [Array.getD, hs, hin]
              · have := (waitsW_anc h).done hcl hkd'; rw [hiF] at this; cases this
              · exact hp h
      · rcases done_set hk with rfl | hk'
        · exact done_keep (ready_dep hi hw)
        · exact done_keep (hcl k j hk' hw)
  obtain ⟨vs0, hvs0⟩ := steps_inh hlen hS all.length (Nat.le_refl _); exact key ops.size _ a0 w0 (by simp) (fun j hj hj2 => by simp [Array.getD, hj2]) (by unfold undone; simp) ⟨vs0, fun _ => w0, by
   have : ∀ m, fillN ops a0 (fun k => (Array.replicate ops.size false).getD k false) vs0 m = a0 := by
    intro m
    induction m with
    | zero => rfl
    | succ m ihm =>
     unfold fillN; rw [ihm, if_neg]; simp [Array.getD]
   exact (this _).symm, hvs0, Below.refl _ _, fun k hk hkd => by
    have : (Array.replicate ops.size false).getD k false = false := by simp [Array.getD]
    rw [this] at hkd; cases hkd⟩ (fun k j hk _ => by
    have : (Array.replicate ops.size false).getD k false = false := by simp [Array.getD]
    rw [this] at hk; cases hk)
theorem mono_start {id : Nat} {a : Act} {w : World} (S : World -> Prop) (all : List Spec) (hm : P.follows .mixedOrders = true) (hok : monoOk .any ops all = true)
    (h : ∀ (OPS : Array Oper) (AV : Nat -> Nat -> Bool) (AL : Nat -> Bool) (K : Act -> World -> Prop) (w0 : World), Hid (∀ (i : Nat) (o : Oper), ops[i]? = some o -> OPS[i]? = some o) -> Hid (∀ i k, avail .any ops all i k = true -> AV i k = true) -> Hid (∀ k, lasts all k = true -> AL k = true) ->
     Hid (∀ a w, wpAnyH P .any ops Q S (ops.size - all.length) (listedM all.length ops.size) a w -> K a w) -> Below w.heap.size w w0 -> w0.heap.size = w.heap.size -> Steps P OPS w0 AV AL K all 0 a (fun _ _ => True)) : (Code.region id ops true).wp P Q a w :=
 wp_region_any hm (zMono hok (h ops (avail .any ops all) (lasts all) (fun a w => wpAnyH P .any ops Q S (ops.size - all.length) (listedM all.length ops.size) a w) _ (fun _ _ h => h) (fun _ _ h => h) (fun _ h => h) (fun _ _ h => h) (Below.refl _ _).drew rfl)
   (fun _ _ h => wpAny_of_held _ _ _ _ h))
def pv (V : Value) : Spec := ⟨fun v _ => v = V, true, []⟩
def mv (R : Value -> World -> Prop) : Spec := ⟨R, false, []⟩
def ev (R : Value -> World -> Prop) (l : List Nat) : Spec := ⟨R, false, l⟩
variable {AV : Nat -> Nat -> Bool} {AL : Nat -> Bool} {K : Act -> World -> Prop} {r : List Spec} {i : Nat} {a : Act} {H : Nat -> World -> Prop} {o : Oper} {d : Option Tmp} {V : Value}
theorem Steps.weaken : ∀ {r : List Spec} {i : Nat} {a : Act} {H H' : Nat -> World -> Prop}, (∀ k w, H k w -> H' k w) -> Steps P ops w0 AV AL K r i a H' -> Steps P ops w0 AV AL K r i a H
 | [], _, _, _, _, hh, h => fun w hw hk => h w hw fun k hl => hh k w (hk k hl)
 | s :: r, i, a, H, H', hh, h => ⟨h.1, fun o ho w hw hk => h.2.1 o ho w hw fun k ha => hh k w (hk k ha), fun o ho v x hv => Steps.weaken (r := r) (fun k w hkw => by
     by_cases e : k = i
     · rw [if_pos e] at hkw ⊢; exact hkw
     · rw [if_neg e] at hkw ⊢; exact hh k w hkw) (h.2.2 o ho v x hv)⟩
theorem step_pg (ho : ops[i]? = some o) (hd : o.dst = d) (hg : o.guard = none) (hrun : ∀ w, Below w0.heap.size w0 w -> (∀ k, AV i k = true -> H k w) -> (execOp a.eval o).run P w = .ok (.value V) w)
    (h : Steps P ops w0 AV AL K r (i + 1) (a.put d V) (fun k w => if k = i then True else H k w)) : Steps P ops w0 AV AL K (pv V :: r) i a H := by
 refine ⟨fun _ => ⟨V, rfl⟩, fun o' ho' w hw hk => ?_, fun o' ho' v x hv => ?_⟩
 · rw [ho] at ho'; cases ho'
   refine .inl ⟨Region.unguarded hg _, ?_⟩; rw [hrun w hw hk]; exact ⟨(if_pos rfl).mpr rfl, (if_pos rfl : Keeps w0 (pv V) w w = _).mpr (Below.refl _ _)⟩
 · rw [ho] at ho'; cases ho'
   obtain rfl : v = V := hv rfl; rw [hd]; refine Steps.weaken (fun k w hkw => ?_) h
   by_cases e : k = i
   · rw [if_pos e]; trivial
   · rw [if_neg e] at hkw ⊢; exact hkw
theorem step_pv (ho : ops[i]? = some o) (hd : o.dst = d) (hg : o.guard = none) (hrun : ∀ w, Below w0.heap.size w0 w -> (execOp a.eval o).run P w = .ok (.value V) w)
    (h : Steps P ops w0 AV AL K r (i + 1) (a.put d V) (fun k w => if k = i then True else H k w)) : Steps P ops w0 AV AL K (pv V :: r) i a H := step_pg ho hd hg (fun w hw _ => hrun w hw) h
theorem step_mv {R : Value -> World -> Prop} (ho : ops[i]? = some o) (hd : o.dst = d) (hg : o.guard = none)
    (hrun : ∀ w, Below w0.heap.size w0 w -> (∀ k, AV i k = true -> H k w) -> ∃ v w2, (execOp a.eval o).run P w = .ok (.value v) w2 ∧ R v w2 ∧ Below w.heap.size w w2)
    (h : ∀ v x, Steps P ops w0 AV AL K r (i + 1) (a.put d v) (fun k w => if k = i then R v x ∧ Below x.heap.size x w else H k w)) : Steps P ops w0 AV AL K (mv R :: r) i a H := by
 refine ⟨fun h => (Bool.false_ne_true h).elim, fun o' ho' w hw hk => ?_, fun o' ho' v x hv => ?_⟩
 · rw [ho] at ho'; cases ho'
   refine .inl ⟨Region.unguarded hg _, ?_⟩; obtain ⟨v, w2, h1, h2, h3⟩ := hrun w hw hk; rw [h1]; exact ⟨(if_neg Bool.false_ne_true).mpr h2, (if_pos rfl : Keeps w0 (mv R) w w2 = _).mpr h3⟩
 · rw [ho] at ho'; cases ho'
   rw [hd]; refine Steps.weaken (fun k w hkw => ?_) (h v x)
   by_cases e : k = i
   · rw [if_pos e] at hkw ⊢; exact hkw
   · rw [if_neg e] at hkw ⊢; exact hkw
theorem step_mc {R : Value -> World -> Prop} (ho : ops[i]? = some o) (hd : o.dst = d) (hg : o.guard = none)
    (hc : ∀ w, Below w0.heap.size w0 w -> (∀ k, AV i k = true -> H k w) -> ∃ f args, (execOp a.eval o).run P w = .ok (.enter f args) w ∧ Calls P f args w fun e w' => ∃ u, e = .returned u ∧ R u w' ∧ Below w.heap.size w w')
    (h : ∀ v x, Steps P ops w0 AV AL K r (i + 1) (a.put d v) (fun k w => if k = i then R v x ∧ Below x.heap.size x w else H k w)) : Steps P ops w0 AV AL K (mv R :: r) i a H := by
 refine ⟨fun h => (Bool.false_ne_true h).elim, fun o' ho' w hw hk => ?_, fun o' ho' v x hv => ?_⟩
 · rw [ho] at ho'; cases ho'
   refine .inl ⟨Region.unguarded hg _, ?_⟩; obtain ⟨f, args, h1, h2⟩ := hc w hw hk; rw [h1]; exact h2.mono fun e w' ⟨u, he, hR, hb⟩ => ⟨u, he, (if_neg Bool.false_ne_true).mpr hR, (if_pos rfl : Keeps w0 (mv R) w w' = _).mpr hb⟩
 · rw [ho] at ho'; cases ho'
   rw [hd]; refine Steps.weaken (fun k w hkw => ?_) (h v x)
   by_cases e : k = i
   · rw [if_pos e] at hkw ⊢; exact hkw
   · rw [if_neg e] at hkw ⊢; exact hkw
theorem step_ev {R : Value -> World -> Prop} {l : List Nat} (hl : l ≠ []) (ho : ops[i]? = some o) (hd : o.dst = d) (hg : o.guard = none)
    (hrun : ∀ w, Below w0.heap.size w0 w -> (∀ k, AV i k = true -> H k w) -> ∃ v w2, (execOp a.eval o).run P w = .ok (.value v) w2 ∧ R v w2 ∧ Below w0.heap.size w w2)
    (h : ∀ v x, Steps P ops w0 AV AL K r (i + 1) (a.put d v) (fun k w => if k = i then R v x ∧ Below x.heap.size x w else H k w)) : Steps P ops w0 AV AL K (ev R l :: r) i a H := by
 refine ⟨fun h => (Bool.false_ne_true h).elim, fun o' ho' w hw hk => ?_, fun o' ho' v x hv => ?_⟩
 · rw [ho] at ho'; cases ho'
   refine .inl ⟨Region.unguarded hg _, ?_⟩; obtain ⟨v, w2, h1, h2, h3⟩ := hrun w hw hk; rw [h1]; exact ⟨(if_neg Bool.false_ne_true).mpr h2, (if_neg hl : Keeps w0 (ev R l) w w2 = _).mpr h3⟩
 · rw [ho] at ho'; cases ho'
   rw [hd]; refine Steps.weaken (fun k w hkw => ?_) (h v x)
   by_cases e : k = i
   · rw [if_pos e] at hkw ⊢; exact hkw
   · rw [if_neg e] at hkw ⊢; exact hkw
end
section
variable {P : Program} {md : Region.Mode} {ops : Array Oper} {Q : Exit -> Act -> World -> Prop} {S : World -> Prop}
theorem take_alloc2 {i j : Nat} {oi oj : Oper} {di dj : Option Tmp} {Ti Tj : TypeId} {zi zj : Array Value} {C : Nat -> Nat -> World -> Prop} {fuel : Nat} {listed : Array Bool} {a : Act} {w : World}
    (hi : ops[i]? = some oi) (hdi : oi.dst = di) (hj : ops[j]? = some oj) (hdj : oj.dst = dj) (hr : Region.ready md ops listed = [i, j])
    (hri : Region.ready md ops (listed.setIfInBounds i true) = [j]) (hrj : Region.ready md ops (listed.setIfInBounds j true) = [i]) (hgi : oi.guard = none) (hgj : oj.guard = none)
    (hali : ∀ (a : Act) (w : World), (execOp a.eval oi).run P w = .ok (.value (.pointer (some ⟨w.heap.size, 0, none⟩))) (w.alloc (.cells zi Ti)))
    (halj : ∀ (a : Act) (w : World), (execOp a.eval oj).run P w = .ok (.value (.pointer (some ⟨w.heap.size, 0, none⟩))) (w.alloc (.cells zj Tj)))
    (hS : S w) (hSb : ∀ w w', S w -> Below w.heap.size w w' -> S w')
    (hij : ∀ gi gj w2, S w2 -> C gi gj w2 -> wpAnyH P md ops Q S fuel ((listed.setIfInBounds i true).setIfInBounds j true) ((a.put di (.pointer (some ⟨gi, 0, none⟩))).put dj (.pointer (some ⟨gj, 0, none⟩))) w2)
    (hji : ∀ gi gj w2, S w2 -> C gi gj w2 -> wpAnyH P md ops Q S fuel ((listed.setIfInBounds j true).setIfInBounds i true) ((a.put dj (.pointer (some ⟨gj, 0, none⟩))).put di (.pointer (some ⟨gi, 0, none⟩))) w2)
    (h : ∀ gi gj w2, gi ≠ gj -> w.heap.size <= gi -> w.heap.size <= gj -> Blk w2 gi Ti zi -> Blk w2 gj Tj zj -> Below w.heap.size w w2 -> S w2 -> C gi gj w2) :
    wpAnyH P md ops Q S (fuel + 2) listed a w := by
 subst hdi hdj; have hb1 : ∀ (w : World) (z : Array Value) (T : TypeId), Below w.heap.size w (w.alloc (.cells z T)) := fun w z T => (Below.refl _ w).alloc (Nat.le_refl _) _
 refine wpAnyH_all hr (by simp) fun k hk => ?_
 rcases (by simpa using hk : k = i ∨ k = j) with rfl | rfl
 · unfold Go.wpOp; simp only [hi]; rw [if_pos (Region.unguarded hgi _)]
   left
   unfold Oper.wp; rw [hali, Oper.upon_value]; have hS1 := hSb _ _ hS (hb1 w zi Ti); refine ⟨hS1, take_alloc hj rfl hri hgj (halj _ _) (fun w' hb => hSb _ _ hS1 hb) fun g w2 hg hB hb hS2 => hij _ _ w2 hS2 (h _ _ w2 ?_ (Nat.le_refl _) ?_ ((Blk.new w Ti zi).stays hb) hB ((hb1 w zi Ti).trans (hb.mono (hb1 w zi Ti).size)) hS2)⟩
   · have := (Blk.new w Ti zi).lt; omega
   · exact Nat.le_trans (hb1 w zi Ti).size hg
 · unfold Go.wpOp; simp only [hj]; rw [if_pos (Region.unguarded hgj _)]
   left
   unfold Oper.wp; rw [halj, Oper.upon_value]; have hS1 := hSb _ _ hS (hb1 w zj Tj); refine ⟨hS1, take_alloc hi rfl hrj hgi (hali _ _) (fun w' hb => hSb _ _ hS1 hb) fun g w2 hg hB hb hS2 => hji _ _ w2 hS2 (h _ _ w2 ?_ ?_ (Nat.le_refl _) hB ((Blk.new w Tj zj).stays hb) ((hb1 w zj Tj).trans (hb.mono (hb1 w zj Tj).size)) hS2)⟩
   · have := (Blk.new w Tj zj).lt; omega
   · exact Nat.le_trans (hb1 w zj Tj).size hg
theorem take_store_at {j : Nat} {oj : Oper} {w2 : World} {fuel : Nat} {listed : Array Bool} {a : Act} {w : World} (hj : ops[j]? = some oj) (hd : oj.dst = none)
    (hr : Region.ready md ops listed = [j]) (hg : oj.guard = none) (hrun : (execOp a.eval oj).run P w = .ok .skip w2) (hS : S w2)
    (h : wpAnyH P md ops Q S fuel (listed.setIfInBounds j true) a w2) : wpAnyH P md ops Q S (fuel + 1) listed a w :=
 take_do (d := none) (v := undef) hj hd hr hg (.inr ⟨rfl, hrun⟩) hS h
end
section
variable {P : Program} {ops : Array Oper} {Q : Exit -> Act -> World -> Prop} {md : Region.Mode} {M : Nat} {w0 : World}
theorem mono_start2 {id : Nat} {a : Act} {w : World} (S : World -> Prop) (all : List Spec) (hm : P.follows .mixedOrders = true) (hok : monoOk .any ops all = true)
    (h : ∀ (OPS : Array Oper) (AV : Nat -> Nat -> Bool) (AL : Nat -> Bool) (K : Act -> World -> Prop) (w0 : World), Hid (∀ (i : Nat) (o : Oper), ops[i]? = some o -> OPS[i]? = some o) -> Hid (∀ i k, avail .any ops all i k = true -> AV i k = true) -> Hid (∀ k, lasts all k = true -> AL k = true) ->
     Hid (∀ a w, wpAnyH P .any ops Q S (ops.size - all.length) (listedM all.length ops.size) a w -> K a w) -> Below w.heap.size w w0 -> w0.heap.size = w.heap.size -> Steps P OPS w0 AV AL K all 0 a (fun _ _ => True)) : (Code.region id ops true).wp P Q a w :=
 wp_region_any hm (zMono hok (h ops (avail .any ops all) (lasts all) (fun a w => wpAnyH P .any ops Q S (ops.size - all.length) (listedM all.length ops.size) a w) _ (fun _ _ h => h) (fun _ _ h => h) (fun _ h => h) (fun _ _ h => h) (Below.refl _ _).drew rfl)
   (fun _ _ h => wpAny_of_held _ _ _ _ h))
end
end Go.Proofs.YtiemnacoebkalaaGreat
