/- Rows of tags (a name and bytes), and which names have their form. -/
import Derived.Test.YtbjmojajhkhekaaItems
import Derived.Laws.RangeString
import Derived.Laws.RangeAny
import Derived.WalkLawsBesides
namespace Go.Proofs.Ytbjmojajhkhekaa
open Go Go.RowKit

/-- '.slice A n c' holds the tags ts. -/
def TagL (w : World) (A : Option Addr) (n c : Nat) (ts : List (ByteArray × List UInt8)) : Prop :=
  ∃ vs : List Value, Rd w 2 A n c vs ∧ ts.length = n ∧ ∀ (i : Nat) (f : ByteArray × List UInt8), ts[i]? = some f → ∃ A' n' c', vs[i * 2]? = some (.string f.1) ∧ vs[i * 2 + 1]? = some (.slice A' n' c') ∧ Bytes w A' n' c' f.2
def tgN (ts : List (ByteArray × List UInt8)) (i : Nat) : ByteArray := (ts.getD i (ByteArray.empty, [])).1
def tgD (ts : List (ByteArray × List UInt8)) (i : Nat) : List UInt8 := (ts.getD i (ByteArray.empty, [])).2
section
variable {w w' : World} {A : Option Addr} {n c : Nat} {ts : List (ByteArray × List UInt8)}
theorem TagL.stays (h : TagL w A n c ts) (hb : Below w.heap.size w w') : TagL w' A n c ts := by
  obtain ⟨vs, h1, h2, h3⟩ := h
  refine ⟨vs, h1.stays hb, h2, fun i f hf => ?_⟩
  obtain ⟨A', n', c', e1, e2, hy⟩ := h3 i f hf
  exact ⟨A', n', c', e1, e2, hy.stays hb⟩
theorem TagL.len (h : TagL w A n c ts) : ts.length = n := by obtain ⟨vs, _, h2, _⟩ := h; exact h2
theorem TagL.le (h : TagL w A n c ts) : n ≤ c := by obtain ⟨vs, h1, _⟩ := h; exact h1.2.1
theorem TagL.cap (h : TagL w A n c ts) : c ≤ 9223372036854775807 := by
  obtain ⟨vs, h1, _⟩ := h
  have := h1.2.2.1
  unfold maxLen at this; omega
theorem TagL.at_ (h : TagL w A n c ts) {i : Nat} (hi : i < n) : ∃ b off A' n' c', A = some ⟨b, off, none⟩ ∧ w.cell? ⟨b, off + i * 2, none⟩ = some (.string (tgN ts i)) ∧
    w.cell? ⟨b, off + i * 2 + 1, none⟩ = some (.slice A' n' c') ∧ Bytes w A' n' c' (tgD ts i) := by
  have hl := h.len
  obtain ⟨vs, h1, h2, h3⟩ := h
  have hli : i < ts.length := by omega
  obtain ⟨A', n', c', e1, e2, hy⟩ := h3 i (ts.getD i (ByteArray.empty, [])) (by simp [hli, List.getD])
  obtain ⟨b, off, ha, hc⟩ := h1.2.2.2 _ _ e1
  obtain ⟨b', off', ha', hc'⟩ := h1.2.2.2 _ _ e2
  rw [ha] at ha'
  simp only [Option.some.injEq, Addr.mk.injEq, and_true] at ha'
  obtain ⟨rfl, rfl⟩ := ha'
  exact ⟨b, off, A', n', c', ha, hc, by rw [Nat.add_assoc]; exact hc', hy⟩
end
theorem TagL.nil (w : World) : TagL w none 0 0 [] := ⟨[], Rd.nil _ _ _ (by decide) _, rfl, fun i f h => by simp at h⟩
theorem take_tag (ts : List (ByteArray × List UInt8)) (k : Nat) (h : k < ts.length) : ts.take (k + 1) = ts.take k ++ [(tgN ts k, tgD ts k)] := by
  have e : (tgN ts k, tgD ts k) = ts[k] := by simp [tgN, tgD, List.getD, h]
  rw [List.take_succ_eq_append_getElem h, e]
def encTag (x : ByteArray × List UInt8) (A : Option Addr) (n c : Nat) : List Value := [.string x.1, .slice A n c]
theorem OwnItems.tags {e : TypeId} {w : World} {B n c : Nat} {A : Option Addr} {ts : List (ByteArray × List UInt8)} (h : OwnItems 2 encTag Prod.snd e w B A n c ts) : TagL w A n c ts := by
  have hl := h.len (by decide)
  obtain ⟨vs, h1, h2⟩ := h.rd
  refine ⟨vs, h1, hl, fun i f hf => ?_⟩
  obtain ⟨A', n', c', e1, e2, _⟩ := h2.2 i f hf
  have a0 := e1 0 (by omega)
  have a1 := e1 1 (by omega)
  simp [encTag] at a0 a1
  exact ⟨A', n', c', a0, a1, e2⟩
/-- A capital letter or a digit. -/
def gd (b : Nat) : Bool := (decide (65 ≤ b) && decide (b ≤ 90)) || (decide (48 ≤ b) && decide (b ≤ 57))
theorem gd_lt {b : Nat} (h : gd b = true) : b < 128 := by
  simp [gd] at h; omega
theorem gd_high {b : Nat} (h : 128 ≤ b) : gd b = false := by
  simp [gd]; omega
def allGd (s : ByteArray) : Prop := ∀ (i : Nat) (h : i < s.size), gd (s[i]'h).toNat = true
/-- A name of a tag. -/
def nameOk (s : ByteArray) : Prop := s.size = 4 ∧ allGd s
instance (s : ByteArray) : Decidable (allGd s) := by unfold allGd; infer_instance
instance (s : ByteArray) : Decidable (nameOk s) := by unfold nameOk; infer_instance
/-- The order of strings. -/
theorem less_total : ∀ a b : List UInt8, (Op.bytesLess a b || a == b) = !(Op.bytesLess b a)
  | [], [] => rfl
  | [], b :: y => by simp [Op.bytesLess]
  | a :: x, [] => by simp [Op.bytesLess]
  | a :: x, b :: y => by
    have ih := less_total x y
    simp only [Op.bytesLess, List.cons_beq_cons]
    by_cases h1 : a < b
    · have h2 : ¬ b < a := fun h => by have := UInt8.lt_iff_toNat_lt.1 h; have := UInt8.lt_iff_toNat_lt.1 h1; omega
      have h3 : (b == a) = false := by
        simp; rintro rfl; exact h2 h1
      simp [h1, h2, h3]
    · by_cases h2 : b < a
      · have h3 : (a == b) = false := by simp; rintro rfl; exact h1 h2
        simp [h1, h2, h3]
      · have h3 : a = b := by
          have q1 : ¬ a.toNat < b.toNat := fun h => h1 (UInt8.lt_iff_toNat_lt.2 h)
          have q2 : ¬ b.toNat < a.toNat := fun h => h2 (UInt8.lt_iff_toNat_lt.2 h)
          exact UInt8.toNat_inj.1 (by omega)
        subst h3
        simp [h1, ih]
theorem less_irrefl : ∀ a : List UInt8, Op.bytesLess a a = false
  | [] => rfl
  | a :: x => by
    have h : ¬ a < a := fun h => by have := UInt8.lt_iff_toNat_lt.1 h; omega
    simp [Op.bytesLess, h, less_irrefl x]
end Go.Proofs.Ytbjmojajhkhekaa
