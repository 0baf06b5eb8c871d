/- A region whose order is open, by one condition that tells what holds when so many operations are done. -/
import Derived.Test.YtbjmojajhkhekaaTakeZ
namespace Go.Proofs.Ytbjmojajhkhekaa
open Go Go.RowKit

section
variable {P : Program} {ops : Array Oper} {Q : Exit → Act → World → Prop} {md : Region.Mode} {Z : List Nat}
theorem arr_getD (L : Array Bool) (i : Nat) (d : Bool) : L.getD i d = (L[i]?).getD d := by
  unfold Array.getD
  split
  · rename_i h; rw [Array.getElem?_eq_getElem h]; rfl
  · rename_i h; rw [Array.getElem?_eq_none (by omega)]; rfl
theorem arr_set_ne {L : Array Bool} {i k : Nat} (h : k ≠ i) (d : Bool) : (L.setIfInBounds i true).getD k d = L.getD k d := by
  rw [arr_getD, arr_getD, Array.getElem?_setIfInBounds_ne (Ne.symm h)]
/-- How many operations are not done. -/
def undone (L : Array Bool) : Nat := (L.toList.filter (fun b => !b)).length
theorem undone_list : ∀ (l : List Bool) (i : Nat), l.getD i true = false → ((l.set i true).filter (fun b => !b)).length + 1 = (l.filter (fun b => !b)).length
  | [], i, h => by simp at h
  | b :: l, 0, h => by simp at h; subst h; simp
  | b :: l, i + 1, h => by
    have := undone_list l i (by simpa using h)
    cases b <;> simp_all
theorem undone_set {L : Array Bool} {i : Nat} (h : L.getD i true = false) : undone (L.setIfInBounds i true) + 1 = undone L := by
  unfold undone
  rw [Array.toList_setIfInBounds]
  refine undone_list _ i ?_
  rw [← h, arr_getD, List.getD_eq_getElem?_getD, Array.getElem?_toList]
theorem undone_none {L : Array Bool} (h : undone L = 0) (i : Nat) : L.getD i true = true := by
  cases hb : L.getD i true with
  | true => rfl
  | false => have := undone_set hb; omega
/-- All edges lead to earlier operations. -/
def downB (md : Region.Mode) (ops : Array Oper) : Bool := (List.range ops.size).all fun i => match ops[i]? with | some o => o.after.all (fun e => !Region.binds md e || decide (e.on < i)) | none => true
theorem downB_spec (h : downB md ops = true) {i : Nat} {o : Oper} (ho : ops[i]? = some o) : ∀ e ∈ o.after, Region.binds md e = true → e.on < i := by
  intro e he hb
  have hi : i < ops.size := (Array.getElem?_eq_some_iff.1 ho).1
  have := List.all_eq_true.1 h i (List.mem_range.2 hi)
  rw [ho] at this
  have h2 := Array.all_eq_true_iff_forall_mem.1 this e he
  simpa [hb] using h2
theorem ready_none (hd : downB md ops = true) {L : Array Bool} (hs : L.size = ops.size) (h : Region.ready md ops L = []) : ∀ i, i < ops.size → L.getD i false = true := by
  intro i
  induction i using Nat.strongRecOn with
  | ind i ih =>
    intro hi
    cases hb : L.getD i false with
    | true => rfl
    | false =>
      exfalso
      have hmem : i ∈ Region.ready md ops L := by
        refine mem_ready.2 ⟨?_, ops[i], Array.getElem?_eq_getElem hi, fun e he hbd => ?_⟩
        · rw [← hb]; simp [Array.getD, hs, hi]
        · have hlt := downB_spec hd (Array.getElem?_eq_getElem hi) e he hbd
          exact ih e.on hlt (by omega)
      rw [h] at hmem; cases hmem
theorem ready_un {L : Array Bool} {i : Nat} (h : i ∈ Region.ready md ops L) : L.getD i true = false := (mem_ready.1 h).1
theorem ready_lt {L : Array Bool} {i : Nat} (h : i ∈ Region.ready md ops L) : i < ops.size := by
  obtain ⟨o, ho, _⟩ := (mem_ready.1 h).2
  exact (Array.getElem?_eq_some_iff.1 ho).1
theorem ready_dep {L : Array Bool} {i : Nat} (h : i ∈ Region.ready md ops L) {k : Nat} (hw : waitsB md ops i k = true) : L.getD k false = true := by
  obtain ⟨o, ho, hall⟩ := (mem_ready.1 h).2
  obtain ⟨oz, hoz, e, he, hb, hon⟩ := waits_of hw
  rw [ho] at hoz
  injection hoz with hoz
  subst hoz
  rw [← hon]
  exact hall e he hb
theorem not_ready {L : Array Bool} {i : Nat} (h : i ∈ Region.ready md ops L) (hd : L.getD i false = true) : False := by
  have h1 := ready_un h
  rcases Nat.lt_or_ge i L.size with h' | h'
  · simp [Array.getD, h'] at h1 hd; rw [h1] at hd; cases hd
  · simp [Array.getD, Nat.not_lt.2 h'] at hd
theorem done_set {L : Array Bool} {i k : Nat} (h : (L.setIfInBounds i true).getD k false = true) : k = i ∨ L.getD k false = true := by
  by_cases e : k = i
  · exact .inl e
  · exact .inr (by rw [← h, arr_set_ne e])
theorem done_keep {L : Array Bool} {i k : Nat} (h : L.getD k false = true) : (L.setIfInBounds i true).getD k false = true := by
  by_cases e : k = i
  · subst e
    rcases Nat.lt_or_ge k L.size with h' | h'
    · simp [Array.getD, h']
    · simp [Array.getD, Nat.not_lt.2 h'] at h
  · rw [arr_set_ne e]; exact h
theorem undone_other {L : Array Bool} {i k : Nat} (hne : k ≠ i) (h : L.getD k false = false) : (L.setIfInBounds i true).getD k false = false := by
  rw [arr_set_ne hne]; exact h
theorem zInv {I : Act → Array Bool → Act → World → Prop} {fuel : Nat} {L : Array Bool} {a : Act} {w : World} (hd : downB md ops = true) (hsz : L.size = ops.size) (hf : undone L ≤ fuel)
    (hstep : ∀ L a' w i, L.size = ops.size → I a L a' w → i ∈ Region.ready md ops L → wpOp P ops Q i (fun a'' w'' => I a (L.setIfInBounds i true) a'' w'') a' w)
    (hend : ∀ L a' w, I a L a' w → (∀ i, i < ops.size → L.getD i false = true) → Q .normal a' w)
    (h0 : I a L a w) : wpAnyZ P md ops Q Z (fun _ => True) fuel L a w := by
  have key : ∀ (fuel : Nat) (L : Array Bool) (a' : Act) (w : World), L.size = ops.size → undone L ≤ fuel → I a L a' w → wpAnyZ P md ops Q Z (fun _ => True) fuel L a' w := by
    intro fuel
    induction fuel with
    | zero =>
      intro L a' w hs hu hI
      have hall : ∀ i, i < ops.size → L.getD i false = true := fun i hi => by
        have := undone_none (L := L) (by omega) i
        rw [← this]
        simp [Array.getD, hs, hi]
      refine ⟨?_, hend L a' w hI hall⟩
      cases hr : Region.ready md ops L with
      | nil => rfl
      | cons i r =>
        exfalso
        have hm : i ∈ Region.ready md ops L := by rw [hr]; simp
        exact not_ready hm (hall i (ready_lt hm))
    | succ fuel ih =>
      intro L a' w hs hu hI
      refine ⟨fun h => hend L a' w hI (ready_none hd hs h), fun i hi => ?_⟩
      refine wpOp_mono (fun a'' w'' h => ⟨.inr trivial, ih _ a'' w'' (by simpa using hs) ?_ h⟩) (hstep L a' w i hs hI hi)
      have := undone_set (ready_un hi)
      omega
  exact key fuel L a w hsz hf h0
end
end Go.Proofs.Ytbjmojajhkhekaa
