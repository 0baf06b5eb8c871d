/- Slices of byte slices, and of structs that hold one, that came in: opened. -/
import Derived.Test.YtbjmojajhkhekaaOpen
import Derived.Test.YtbjmojajhkhekaaItems
import Derived.Test.YtbjmojajhkhekaaFld
import Derived.Deep.Slices
import Derived.ChangeSame
namespace Go.Proofs.Ytbjmojajhkhekaa
open Go.ChangeShapes Go.WideShapes Go.ChangeAt Go.RowKit Go.Deep

/-- '.slice A n c' holds pairs: a first cell that R0 reads, and bytes. -/
def Pairs {β : Type} (R0 : Value → β → Prop) (w : World) (A : Option Addr) (n c : Nat) (xs : List (β × List UInt8)) : Prop :=
  ∃ vs : List Value, Rd w 2 A n c vs ∧ xs.length = n ∧ ∀ (i : Nat) (x : β × List UInt8), xs[i]? = some x → ∃ v0 A' n' c', vs[i * 2]? = some v0 ∧ R0 v0 x.1 ∧ vs[i * 2 + 1]? = some (.slice A' n' c') ∧ Bytes w A' n' c' x.2
section
variable {H : Type} {enc : TypeId × Value → H} {P : Program} {W : World}
theorem bytes_of_trod {t e m : Nat} {v : Value} {y : DataW H × List MemPlace} (ht : P.underlying t = some (.slice e)) (he : P.underlying e = some (.int .u8)) (hc : P.cellsOf e = 1)
    (h : DataW.trod enc P W 0 (fun _ => true) true m t [v] = some y) : ∃ A n c l, v = .slice A n c ∧ Bytes W A n c l := by
  rcases open_ints ht he hc h with ⟨hcs, _⟩ | ⟨x, l, cap, zs, hcs, _, hl, hm, hz, _, hcell, hwz⟩
  · simp at hcs
    subst hcs
    exact ⟨none, 0, 0, [], rfl, Bytes.nil _ _ _ (by decide)⟩
  · simp at hcs
    subst hcs
    refine ⟨some x, l, cap, (zs.take l).map fun x => UInt8.ofNat x.toNat, rfl, ?_⟩
    have hz' : (zs.take l).length = l := by simp at hz ⊢; omega
    refine ⟨by simpa using hz', hl, hm, fun i u hu => ?_⟩
    have hi : i < l := by
      rcases Nat.lt_or_ge i l with h | h
      · exact h
      · rw [List.getElem?_eq_none (by simp only [List.length_map]; omega)] at hu; cases hu
    have hiz : i < zs.length := by simp at hz; omega
    have hci := hcell i hiz
    obtain ⟨b, off, spot⟩ := x
    have h0 := hcell 0 (by omega)
    have hsp : spot = none := by have := spot_none h0; simpa [Addr.add] using this
    subst hsp
    refine ⟨b, off, rfl, ?_⟩
    rw [add_off] at hci
    rw [hci, ← hu]
    have hw := bounds_u8 (hwz zs[i] (List.getElem_mem _))
    simp [hi, hiz, List.getD, byteV]
    omega
theorem row_open {b off n : Nat} {size : Nat} {c : Nat} (hl : n ≤ c) (hm : c ≤ maxLen) (h : ∀ j, j < n * size → ∃ u, W.cell? ⟨b, off + j, none⟩ = some u) :
    Rd W size (some ⟨b, off, none⟩) n c ((List.range (n * size)).map fun j => (W.cell? ⟨b, off + j, none⟩).getD undef) := by
  refine ⟨by simp, hl, hm, fun i u hu => ⟨b, off, rfl, ?_⟩⟩
  have hi : i < n * size := by
    rcases Nat.lt_or_ge i (n * size) with h | h
    · exact h
    · rw [List.getElem?_eq_none (by simpa using h)] at hu; cases hu
  obtain ⟨x, hx⟩ := h i hi
  simp [hi, hx] at hu
  rw [hx, hu]
theorem row_at {b off n size i : Nat} {u : Value} (hi : i < n * size) (h : W.cell? ⟨b, off + i, none⟩ = some u) : ((List.range (n * size)).map fun j => (W.cell? ⟨b, off + j, none⟩).getD undef)[i]? = some u := by
  simp [hi, h]
theorem open_pairs {β : Type} [Inhabited β] (R0 : Value → β → Prop) {r : Reach} {b0 t e tu : Nat} {f0 f1 : Field} {v : Value} {d : DataW H} {ps : List MemPlace}
    (ht : P.underlying t = some (.slice e)) (he : P.underlying e = some (.struct #[f0, f1])) (ho0 : f0.offset = 0) (ho1 : f1.offset = 1) (hC : P.cellsOf e = 2) (hk0 : P.cellsOf f0.type = 1) (hk1 : P.cellsOf f1.type = 1)
    (hr0 : ∀ n v y, DataW.trod enc P W 0 (fun _ => true) true n f0.type [v] = some y → ∃ b, R0 v b) (hb : P.underlying f1.type = some (.slice tu)) (hu : P.underlying tu = some (.int .u8)) (hcu : P.cellsOf tu = 1)
    (hval : Value.okWide P W r b0 t v) (h : DataW.Trod enc P W 0 (fun _ => true) true t v d ps) : ∃ A n c xs, v = .slice A n c ∧ Pairs R0 W A n c xs := by
  obtain ⟨A, n, c, rfl⟩ := okWide_slice ht hval
  obtain ⟨fuel, hf⟩ := h
  rcases open_slice ht hf with ⟨hcs, _⟩ | ⟨a, len, cap, m, n', D, Pl, hcs, _, hl, hm, hmm, _, hi⟩
  · simp [Value.cells] at hcs
    obtain ⟨rfl, rfl, rfl⟩ := hcs
    exact ⟨none, 0, 0, [], rfl, [], Rd.nil _ _ _ (by decide) _, rfl, fun i x hx => by simp at hx⟩
  · simp [Value.cells] at hcs
    obtain ⟨rfl, rfl, rfl⟩ := hcs
    obtain rfl : c = m := by simpa using hmm.symm
    clear hmm
    have key : ∀ i, i < n → ∃ x : β × List UInt8, ∃ v0 A' n' c', W.cell? (a.add (i * 2)) = some v0 ∧ R0 v0 x.1 ∧ W.cell? (a.add (i * 2 + 1)) = some (.slice A' n' c') ∧ Bytes W A' n' c' x.2 := by
      intro i hin
      obtain ⟨cs', hc, hct⟩ := hi i (by omega)
      rw [hC] at hc
      obtain ⟨xs, m', _, _, hlc, hlx, hfl⟩ := DataW.trod_struct he hct
      rw [hC] at hlc
      obtain ⟨_, hcl, hat⟩ := World.cells?_some hc
      match cs', hlc, hat, hfl with
      | [u0, u1], _, hat, hfl =>
        have h0 := hfl 0 f0 rfl
        have h1 := hfl 1 f1 rfl
        have l2 : xs.length = 2 := hlx
        rw [ho0, hk0, List.getElem?_eq_getElem (by omega)] at h0
        rw [ho1, hk1, List.getElem?_eq_getElem (by omega)] at h1
        obtain ⟨b, hb0⟩ := hr0 _ u0 _ h0
        obtain ⟨A', n'', c', l', rfl, hy⟩ := bytes_of_trod hb hu hcu (v := u1) h1
        have e0 := hat (i := 0) (by omega)
        have e1 := hat (i := 1) (by omega)
        rw [add_add] at e0 e1
        exact ⟨(b, l'), u0, A', n'', c', by simpa using e0, hb0, by simpa using e1, hy⟩
    obtain ⟨F, hF⟩ := choose_lt key
    rcases Nat.eq_zero_or_pos n with h0 | hp
    · subst h0
      exact ⟨some a, 0, c, [], rfl, [], Rd.nil _ _ _ hm _, rfl, fun i x hx => by simp at hx⟩
    · obtain ⟨b, off, spot⟩ := a
      have hsp : spot = none := by
        obtain ⟨v0, _, _, _, e0, _⟩ := hF 0 hp
        have := spot_none e0
        simpa [Addr.add] using this
      subst hsp
      simp only [add_off] at hF
      refine ⟨_, n, c, (List.range n).map F, rfl, _, row_open hl hm (fun j hj => ?_), by simp, fun i x hx => ?_⟩
      · obtain ⟨v0, A', n'', c', e0, _, e1, _⟩ := hF (j / 2) (by omega)
        rcases Nat.mod_two_eq_zero_or_one j with h | h
        · rw [show j = j / 2 * 2 by omega]; exact ⟨_, e0⟩
        · rw [show j = j / 2 * 2 + 1 by omega]; exact ⟨_, e1⟩
      · have hin : i < n := by
          rcases Nat.lt_or_ge i n with h | h
          · exact h
          · rw [List.getElem?_eq_none (by simpa using h)] at hx; cases hx
        simp [hin] at hx
        subst hx
        obtain ⟨v0, A', n'', c', e0, h0, e1, hy⟩ := hF i hin
        exact ⟨v0, A', n'', c', row_at (by omega) e0, h0, row_at (by omega) e1, hy⟩
theorem open_flds {r : Reach} {b0 t e tu : Nat} {f0 f1 : Field} {v : Value} {d : DataW H} {ps : List MemPlace}
    (ht : P.underlying t = some (.slice e)) (he : P.underlying e = some (.struct #[f0, f1])) (ho0 : f0.offset = 0) (ho1 : f1.offset = 1) (hC : P.cellsOf e = 2) (hk0 : P.cellsOf f0.type = 1) (hk1 : P.cellsOf f1.type = 1)
    (hi0 : P.underlying f0.type = some (.int .i64)) (hb : P.underlying f1.type = some (.slice tu)) (hu : P.underlying tu = some (.int .u8)) (hcu : P.cellsOf tu = 1)
    (hval : Value.okWide P W r b0 t v) (h : DataW.Trod enc P W 0 (fun _ => true) true t v d ps) : ∃ A n c xs, v = .slice A n c ∧ FldL W A n c xs ∧ ∀ x ∈ xs, (Lit.int .i64 x.1).wf = true := by
  obtain ⟨A, n, c, xs, rfl, vs, h1, h2, h3⟩ := open_pairs (fun v b => v = .int .i64 b ∧ (Lit.int .i64 b).wf = true) ht he ho0 ho1 hC hk0 hk1 (fun n v y hy => by
    obtain ⟨x, e, _, w⟩ := DataW.trod_int hi0 hy
    simp at e
    exact ⟨x, e, w⟩) hb hu hcu hval h
  refine ⟨A, n, c, xs, rfl, ⟨vs, h1, h2, fun i x hx => ?_⟩, fun x hx => ?_⟩
  · obtain ⟨v0, A', n', c', e0, ⟨rfl, _⟩, e1, hy⟩ := h3 i x hx
    exact ⟨A', n', c', e0, e1, hy⟩
  · obtain ⟨i, hi, rfl⟩ := List.mem_iff_getElem.1 hx
    obtain ⟨v0, A', n', c', e0, ⟨_, hw⟩, e1, hy⟩ := h3 i _ (List.getElem?_eq_getElem hi)
    exact hw
theorem open_lists {r : Reach} {b0 t e tu : Nat} {v : Value} {d : DataW H} {ps : List MemPlace}
    (ht : P.underlying t = some (.slice e)) (hC : P.cellsOf e = 1) (hb : P.underlying e = some (.slice tu)) (hu : P.underlying tu = some (.int .u8)) (hcu : P.cellsOf tu = 1)
    (hval : Value.okWide P W r b0 t v) (h : DataW.Trod enc P W 0 (fun _ => true) true t v d ps) : ∃ A n c ls, v = .slice A n c ∧ Lists W A n c ls := by
  obtain ⟨A, n, c, rfl⟩ := okWide_slice ht hval
  obtain ⟨fuel, hf⟩ := h
  rcases open_slice1 ht hC hf with ⟨hcs, _⟩ | ⟨a, len, cap, m, n', V, D, Pl, hcs, _, hl, hm, hmm, _, hi⟩
  · simp [Value.cells] at hcs
    obtain ⟨rfl, rfl, rfl⟩ := hcs
    exact ⟨none, 0, 0, [], rfl, [], Rd.nil _ _ _ (by decide) _, rfl, fun i x hx => by simp at hx⟩
  · simp [Value.cells] at hcs
    obtain ⟨rfl, rfl, rfl⟩ := hcs
    obtain rfl : c = m := by simpa using hmm.symm
    clear hmm
    have key : ∀ i, i < n → ∃ l : List UInt8, ∃ A' n' c', W.cell? (a.add i) = some (.slice A' n' c') ∧ Bytes W A' n' c' l := by
      intro i hin
      obtain ⟨hc, hct⟩ := hi i (by omega)
      obtain ⟨A', n'', c', l', e, hy⟩ := bytes_of_trod hb hu hcu hct
      exact ⟨l', A', n'', c', by rw [hc, e], hy⟩
    obtain ⟨F, hF⟩ := choose_lt key
    rcases Nat.eq_zero_or_pos n with h0 | hp
    · subst h0
      exact ⟨some a, 0, c, [], rfl, [], Rd.nil _ _ _ hm _, rfl, fun i x hx => by simp at hx⟩
    · obtain ⟨b, off, spot⟩ := a
      have hsp : spot = none := by
        obtain ⟨_, _, _, e0, _⟩ := hF 0 hp
        have := spot_none e0
        simpa [Addr.add] using this
      subst hsp
      simp only [add_off] at hF
      have hrow := row_open (size := 1) (W := W) (b := b) (off := off) hl hm (fun j hj => by
        obtain ⟨A', n'', c', e0, _⟩ := hF j (by omega)
        exact ⟨_, e0⟩)
      refine ⟨_, n, c, (List.range n).map F, rfl, (List.range (n * 1)).map fun j => (W.cell? ⟨b, off + j, none⟩).getD undef, hrow, by simp, fun i x hx => ?_⟩
      have hin : i < n := by
        rcases Nat.lt_or_ge i n with h | h
        · exact h
        · rw [List.getElem?_eq_none (by simpa using h)] at hx; cases hx
      simp [hin] at hx
      subst hx
      obtain ⟨A', n'', c', e0, hy⟩ := hF i hin
      exact ⟨A', n'', c', row_at (by omega) e0, hy⟩
end
end Go.Proofs.Ytbjmojajhkhekaa
