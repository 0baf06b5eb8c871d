import Derived.RangeFuncNested
import Derived.RangeFuncBound
import Derived.RangeFuncCalls
import Derived.RangeFuncLeaves
import Derived.OrdersIn
import Derived.Test.YtiemnacoebkalaaGreatTaV04
set_option linter.all false
set_option maxRecDepth 100000
set_option maxHeartbeats 4000000
namespace Go.Proofs.YtiemnacoebkalaaGreat
open Go Go.RowKit
section
variable {P : Program} {ops : Array Oper} {Q : Exit -> Act -> World -> Prop} {md : Region.Mode} {M : Nat} {w0 : World} {F : Fence} {n : Nat}
def WideF (F : Fence) : Prop := F = Fence.wide ∨ ∃ l, F = Fence.wide.inRound l
def noDefer (ops : Array Oper) : Bool := ops.all fun o => match o.op with | .defer _ => false | _ => true
theorem noDefer_spec (h : noDefer ops = true) {i : Nat} {o : Oper} (ho : ops[i]? = some o) (c : Call) : o.op ≠ .defer c := by
 intro e; have hi : i < ops.size := (Array.getElem?_eq_some_iff.1 ho).1; have h2 := Array.all_eq_true.1 h i hi; obtain ⟨_, hoi⟩ := Array.getElem?_eq_some_iff.1 ho; rw [hoi, e] at h2
 cases h2
theorem WideF.calls (hF : WideF F) {f : FuncId} {args : Array Value} {w : World} {R : Ending -> World -> Prop} (m : Nat) (h : Calls P f args w R) : CallsIn F m P f args w R := by
 rcases hF with rfl | ⟨l, rfl⟩
 · exact callsIn_wide.2 h
 · exact CallsIn.inRound l (callsIn_wide.2 h)
theorem WideF.fn (hF : WideF F) (f : FuncId) : F.fn f := by
 rcases hF with rfl | ⟨l, rfl⟩ <;> trivial
theorem WideF.depth (hF : WideF F) : F.depth = none := by
 rcases hF with rfl | ⟨l, rfl⟩ <;> rfl
theorem Does.wpOpIn (hF : WideF F) {i : Nat} {o : Oper} {a : Act} {w : World} {R : Value -> World -> Prop} (hnd : ∀ c, o.op ≠ .defer c) (hi : ops[i]? = some o) (h : Does P ops o a w R) {K : Act -> World -> Prop} (hK : ∀ u w', R u w' -> K (a.put o.dst u) w') : wpOpIn F n P ops Q i K a w := by
 unfold Go.wpOpIn; simp only [hi]; rcases h with ⟨hw, h⟩ | ⟨hw, h⟩
 · rw [if_pos hw]; refine ⟨fun f _ => hF.fn f, ?_⟩; rw [Oper.semAt_eq _ _ _ hnd]
   generalize (execOp a.eval o).run P w = r at h ⊢
   cases r with
   | ok n w' =>
    cases n with
    | value u => exact hK u w' h
    | enter f args =>
     refine ⟨fun hd => (by rw [hF.depth] at hd; cases hd), hF.calls _ (Calls.mono h fun e w'' he => ?_)⟩; obtain ⟨u, rfl, hR⟩ := he; exact hK u w'' hR
    | _ => exact h.elim
   | halt x w' => exact h.elim
 · rw [if_neg (by rw [hw]; decide)]; exact ⟨fun f _ => hF.fn f, hK _ _ h⟩
theorem zMonoIn {a0 : Act} {all : List Spec} {K : Act -> World -> Prop} (hF : WideF F) (hnd : noDefer ops = true) (hok : monoOk md ops all = true) (hS : Steps P ops w0 (avail md ops all) (lasts all) K all 0 a0 (fun _ _ => True))
    (hK : ∀ a w, K a w -> wpAnyIn F n P md ops Q (ops.size - all.length) (listedM all.length ops.size) a w) : wpAnyIn F n P md ops Q ops.size (Array.replicate ops.size false) a0 w0 := by
  unfold monoOk at hok; simp only [Bool.and_eq_true] at hok; obtain ⟨hdown, hsel, hlen, hpair, htail⟩ := hok; have hlen := of_decide_eq_true hlen; have hsel' := fun j o cs b => Region.noSelect_spec hsel j o cs b
  have HP : ∀ i, i < all.length -> ∀ k, k < all.length ->
      (∀ t, dstOf ops k = some t -> (k ≠ i -> dstOf ops i ≠ some t) ∧ (t ∈ (ops.getD i default).looksAt ops -> waitsW md ops i k = true)) ∧
      ((all.getD i default).eats = [] ∨ k = i ∨ k ∈ (all.getD i default).eats ∨ waitsW md ops k i = true ∨ (all.getD k default).pure = true) := by
   intro i hi k hk; have h := List.all_eq_true.1 (List.all_eq_true.1 hpair i (List.mem_range.2 hi)) k (List.mem_range.2 hk); simp only [Bool.and_eq_true] at h; obtain ⟨⟨h1, h2⟩, _⟩ := h; refine ⟨fun t ht => ?_, ?_⟩
   · rw [ht] at h1; simp only [Bool.and_eq_true, Bool.or_eq_true, decide_eq_true_eq, bne_iff_ne, ne_eq, Bool.not_eq_true'] at h1; exact ⟨fun hne => h1.1.resolve_left hne, fun hm => h1.2.resolve_left (by rw [List.contains_iff_mem.2 hm]; decide)⟩
   · simp only [Bool.or_eq_true, decide_eq_true_eq, List.isEmpty_iff, List.contains_iff_mem] at h2; exact h2
  have HT : ∀ j, all.length <= j -> j < ops.size -> ∀ i, i < all.length -> waitsW md ops j i = true := by
   intro j hj hj2 i hi; have h := List.all_eq_true.1 htail j (List.mem_range.2 hj2); simp only [Bool.or_eq_true, decide_eq_true_eq] at h; exact List.all_eq_true.1 (h.resolve_left (by omega)) i (List.mem_range.2 hi)
  have key : ∀ (fuel : Nat) (L : Array Bool) (a : Act) (w : World), L.size = ops.size -> (∀ j, all.length <= j -> j < ops.size -> L.getD j false = false) -> undone L = fuel ->
      (∃ (vs : Nat -> Value) (xs : Nat -> World), a = fillN ops a0 (fun k => L.getD k false) vs all.length ∧ (∀ k, k < all.length -> (all.getD k default).pure = true -> (all.getD k default).R (vs k) w0) ∧ Below w0.heap.size w0 w ∧ ∀ k, k < all.length -> L.getD k false = true -> (∀ j, j < all.length -> L.getD j false = true -> k ∉ (all.getD j default).eats) -> Known w0 (all.getD k default) (vs k) (xs k) w) ->
      (∀ k j, L.getD k false = true -> waitsB md ops k j = true -> L.getD j false = true) ->
      wpAnyIn F n P md ops Q fuel L a w := by
   intro fuel
   induction fuel with
   | zero =>
    intro L a w hs hM hu hI hcl; have hall : ∀ i, i < ops.size -> L.getD i false = true := fun i hi => by
     have := undone_none hu i; rw [<- this]; simp [Array.getD, hs, hi]
    have hMn : all.length = ops.size := by
     rcases Nat.lt_or_ge all.length ops.size with h | h
     · have h1 := hM all.length (Nat.le_refl _) h; rw [hall _ h] at h1; cases h1
     · omega
    obtain ⟨vs, xs, ha, hvp, hb, hkn⟩ := hI; have eL : L = listedM all.length ops.size := listedM_of hlen hs (fun k hk => hall k (by omega)) (fun k h1 h2 => by omega); have hst := stepsAt hlen hS vs xs all.length (Nat.le_refl _) hvp; rw [List.drop_length] at hst; have hfin := hst w hb fun k hl => HofN_of _ _ _ fun hk => hkn k hk (hall k (by omega)) fun j hj _ hm => by
     have := List.all_eq_true.1 hl j (List.mem_range.2 hj); simp only [Bool.not_eq_true', ] at this; rw [List.contains_iff_mem.2 hm] at this; cases this
    have hfill : a = fillN ops a0 (fun _ => true) vs all.length := by
     rw [ha]; have : ∀ m, m <= all.length -> fillN ops a0 (fun k => L.getD k false) vs m = fillN ops a0 (fun _ => true) vs m := by
      intro m
      induction m with
      | zero => exact fun _ => rfl
      | succ m ih => intro hm; unfold fillN; rw [ih (by omega), hall m (by omega)]
     exact this _ (Nat.le_refl _)
    rw [<- hfill] at hfin; have := hK a w hfin; rw [<- eL, show ops.size - all.length = 0 by omega] at this; exact this
   | succ fuel ih =>
    intro L a w hs hM hu hI hcl
    by_cases hdone : ∀ k, k < all.length -> L.getD k false = true
    · obtain ⟨vs, xs, ha, hvp, hb, hkn⟩ := hI; have eL : L = listedM all.length ops.size := listedM_of hlen hs hdone hM; have hst := stepsAt hlen hS vs xs all.length (Nat.le_refl _) hvp; rw [List.drop_length] at hst; have hfin := hst w hb fun k hl => HofN_of _ _ _ fun hk => hkn k hk (hdone k hk) fun j hj _ hm => by
       have := List.all_eq_true.1 hl j (List.mem_range.2 hj); simp only [Bool.not_eq_true', ] at this; rw [List.contains_iff_mem.2 hm] at this; cases this
      have hfill : a = fillN ops a0 (fun _ => true) vs all.length := by
       rw [ha]; have : ∀ m, m <= all.length -> fillN ops a0 (fun k => L.getD k false) vs m = fillN ops a0 (fun _ => true) vs m := by
        intro m
        induction m with
        | zero => exact fun _ => rfl
        | succ m ih => intro hm; unfold fillN; rw [ih (by omega), hdone m (by omega)]
       exact this _ (Nat.le_refl _)
      rw [<- hfill] at hfin; have := hK a w hfin; rw [<- eL, show ops.size - all.length = fuel + 1 by rw [<- undone_listedM all.length ops.size, <- eL, hu]] at this; exact this
    · refine ⟨fun hr => (hdone fun k hk => ready_none hdown hs hr k (by omega)).elim, fun i hi => ?_⟩; have hin := ready_lt hi; have hiM : i < all.length := by
       rcases Nat.lt_or_ge i all.length with h | h
       · exact h
       · exact (hdone fun k hk => (waitsW_anc (HT i h hin k hk)).ready hcl hi).elim
      have hiF : L.getD i false = false := by
       cases h : L.getD i false with
       | false => rfl
       | true => exact (not_ready hi h).elim
      obtain ⟨vs, xs, ha, hvp, hb, hkn⟩ := hI; have hst := stepsAt hlen hS vs xs i (by omega) (fun k hk => hvp k (by omega)); rw [List.drop_eq_getElem_cons hiM] at hst; have e : (all.getD i default) = all[i] := by simp [List.getD, List.getElem?_eq_getElem hiM]
      rw [<- e] at hst; have ho : ops[i]? = some (ops.getD i default) := by simp [Array.getD, hin]
      have hdo := hst.2.1 _ ho w hb fun k hav => HofN_of _ _ _ fun hk => by
       unfold avail at hav; simp only [Bool.and_eq_true] at hav; refine hkn k (by omega) ((waitsW_anc hav.1).ready hcl hi) fun j hj hjd hm => ?_
       have := List.all_eq_true.1 hav.2 j (List.mem_range.2 hj); simp only [Bool.or_eq_true, decide_eq_true_eq, Bool.not_eq_true'] at this; rcases this with (h | h) | h
       · subst h; rw [hiF] at hjd; cases hjd
       · rw [List.contains_iff_mem.2 hm] at h; cases h
       · have h9 := (waitsW_anc h).done hcl hjd; rw [hiF] at h9; cases h9
      have hagr : Agr ((ops.getD i default).looksAt ops) a (fillN ops a0 (fun _ => true) vs i) := by
       rw [ha]; refine agrFill (fun k hk t hd ht => ?_) (by omega); have hw := ((HP i hiM k hk).1 t hd).2 ht; exact ⟨(waitsW_anc hw).lt hdown, (waitsW_anc hw).ready hcl hi⟩
      have hdo2 := hdo.agr hagr (fun t ht => ht) (fun cs b => hsel' i _ cs b ho); refine hdo2.wpOpIn hF (fun c => noDefer_spec hnd ho c) ho fun u w' hR => ?_
      have hu2 := undone_set (ready_un hi); refine ih _ _ w' (by simpa using hs) (fun j hj hj2 => ?_) (by omega) ⟨upd vs i u, upd xs i w', ?_, fun k hk hkp => ?_, ?_, fun k hk hkd hne => ?_⟩ (fun k j hk hw => ?_)
      · exact undone_other (by omega) (hM j hj hj2)
      · rw [ha]; refine (fillN_set hiF ?_ (fun k hk => arr_set_ne hk false) hiM fun k hk hki t ht => ((HP i hiM k hk).1 t ht).1 hki).symm; simp [Array.getD, hs, hin]
      · by_cases hki : k = i
        · subst hki; rw [upd_same]; have h1 := hR.1; rw [if_pos hkp] at h1; exact h1
        · rw [upd_ne _ _ hki]; exact hvp k hk hkp
      · have hk := hR.2; unfold Keeps at hk
        split at hk
        · exact hb.trans (hk.mono hb.size)
        · exact hb.trans hk
      · rcases done_set hkd with rfl | hkd'
        · rw [upd_same, upd_same]; unfold Known; have h1 := hR.1
          split
          · rename_i hp; rw [if_pos hp] at h1; exact h1
          · rename_i hp; rw [if_neg hp] at h1; exact ⟨h1, Below.refl _ _⟩
        · have hki : k ≠ i := fun h => by subst h; rw [hiF] at hkd'; cases hkd'
          rw [upd_ne _ _ hki, upd_ne _ _ hki]; have h0 := hkn k hk hkd' fun j hj hjd => hne j hj (done_keep hjd)
          unfold Known at h0 ⊢
          split
          · rename_i hp; rw [if_pos hp] at h0; exact h0
          · rename_i hp; rw [if_neg hp] at h0; refine ⟨h0.1, ?_⟩; have hkp := hR.2; unfold Keeps at hkp
            split at hkp
            · exact h0.2.trans (hkp.mono h0.2.size)
            · rename_i hea; exfalso; rcases (HP i hiM k hk).2 with h | h | h | h | h
              · exact hea h
              · exact hki h
              · refine hne i hiM ?_ h; simp [Array.getD, hs, hin]
              · have := (waitsW_anc h).done hcl hkd'; rw [hiF] at this; cases this
              · exact hp h
      · rcases done_set hk with rfl | hk'
        · exact done_keep (ready_dep hi hw)
        · exact done_keep (hcl k j hk' hw)
  obtain ⟨vs0, hvs0⟩ := steps_inh hlen hS all.length (Nat.le_refl _); exact key ops.size _ a0 w0 (by simp) (fun j hj hj2 => by simp [Array.getD, hj2]) (by unfold undone; simp) ⟨vs0, fun _ => w0, by
   have : ∀ m, fillN ops a0 (fun k => (Array.replicate ops.size false).getD k false) vs0 m = a0 := by
    intro m
    induction m with
    | zero => rfl
    | succ m ihm =>
     unfold fillN; rw [ihm, if_neg]; simp [Array.getD]
   exact (this _).symm, hvs0, Below.refl _ _, fun k hk hkd => by
    have : (Array.replicate ops.size false).getD k false = false := by simp [Array.getD]
    rw [this] at hkd; cases hkd⟩ (fun k j hk _ => by
    have : (Array.replicate ops.size false).getD k false = false := by simp [Array.getD]
    rw [this] at hk; cases hk)
theorem mono_startIn {id : Nat} {a : Act} {w : World} (hF : WideF F) (hnd : noDefer ops = true) (all : List Spec) (hm : P.follows .mixedOrders = true) (hok : monoOk .any ops all = true)
    (h : ∀ (OPS : Array Oper) (AV : Nat -> Nat -> Bool) (AL : Nat -> Bool) (K : Act -> World -> Prop) (w0 : World), Hid (∀ (i : Nat) (o : Oper), ops[i]? = some o -> OPS[i]? = some o) -> Hid (∀ i k, avail .any ops all i k = true -> AV i k = true) -> Hid (∀ k, lasts all k = true -> AL k = true) ->
     Hid (∀ a w, wpAnyIn F n P .any ops Q (ops.size - all.length) (listedM all.length ops.size) a w -> K a w) -> Below w.heap.size w w0 -> w0.heap.size = w.heap.size -> Steps P OPS w0 AV AL K all 0 a (fun _ _ => True)) : (Code.region id ops true).wpIn F n P Q a w :=
 wpIn_region_any hm (zMonoIn hF hnd hok (h ops (avail .any ops all) (lasts all) (fun a w => wpAnyIn F n P .any ops Q (ops.size - all.length) (listedM all.length ops.size) a w) _ (fun _ _ h => h) (fun _ _ h => h) (fun _ h => h) (fun _ _ h => h) (Below.refl _ _).drew rfl)
   (fun _ _ h => h))
theorem tailIn_store {j fuel : Nat} {listed : Array Bool} {a : Act} {w w' : World} {o : Oper} {d : Option Tmp} (hF : WideF F) (hr : Region.ready md ops listed = [j]) (ho : ops[j]? = some o) (hd : o.dst = d) (hg : o.guard = none) (hnd : ∀ c, o.op ≠ .defer c) (hrun : (execOp a.eval o).run P w = .ok .skip w')
    (h : wpAnyIn F n P md ops Q fuel (listed.setIfInBounds j true) (a.put d undef) w') : wpAnyIn F n P md ops Q (fuel + 1) listed a w := by
 subst hd; refine wpAnyIn_all hr (by simp) fun k hk => ?_
 obtain rfl : k = j := by simpa using hk
 unfold Go.wpOpIn; simp only [ho]; rw [if_pos (Region.unguarded hg _)]; refine ⟨fun f _ => hF.fn f, ?_⟩; rw [Oper.semAt_eq _ _ _ hnd, hrun]; exact h
end
end Go.Proofs.YtiemnacoebkalaaGreat
