/- An element of a row of the call's own is set; sectimeworld.Changed told by the list alone. -/
import Derived.Test.YtahphlcahaheiaaWChg
import Derived.Test.YtahphlcahaheiaaShaW
namespace Go.Proofs.Ytahphlcahaheiaa
open Go.RowKit

theorem changed_by (l : List UInt8) (n : Nat) (at' by' : Int) (hl : l.length = n) (hn : 0 < n) (hn2 : n ≤ 100000) :
    ∃ l' : List UInt8, l'.length = n ∧ ∀ (A : Option Addr) (c : Nat) (w : World), Bytes w A n c l → Calls Try.prog 25 #[.slice A n c, .int .i64 at', .int .i64 by'] w fun e w' => ∃ A' c', e = .returned (.slice A' n c') ∧ Bytes w' A' n c' l' ∧ Fresh w.heap.size A' ∧ Below w.heap.size w w' := by
  subst hl
  exact changed_any l _ _ _ at' by' _ (Bytes.made (w := default) (l := l) (E := 0) (by unfold maxLen; omega)) hn hn2
theorem ItemsV.setOne {w : World} {bad : Option Nat} {vs : List Value} {ls : List (List UInt8)} (h : ItemsV 1 encB id w bad vs ls) (k : Nat) (l2 : List UInt8) (A : Option Addr) (n c : Nat) (hk : k < ls.length) (hb : Bytes w A n c l2) (ho : Off A n bad) :
    ItemsV 1 encB id w bad (vs.set k (.slice A n c)) (ls.set k l2) := by
  have hl := h.1
  refine ⟨by simp [hl], fun i x hx => ?_⟩
  by_cases e : i = k
  · subst e
    have hx2 : x = l2 := by simpa [hk] using hx.symm
    subst hx2
    refine ⟨A, n, c, fun q hq => ?_, hb, ho⟩
    have : q = 0 := by omega
    subst this
    have hiv : i < vs.length := by omega
    simp [encB, hiv]
  · rw [List.getElem?_set_ne (fun h => e h.symm)] at hx
    obtain ⟨A', n', c', e1, e2, e3⟩ := h.2 i x hx
    refine ⟨A', n', c', fun q hq => ?_, e2, e3⟩
    have : q = 0 := by omega
    subst this
    rw [List.getElem?_set_ne (by omega)]
    exact e1 0 (by omega)
theorem bytes_litm {w : World} {E n : Nat} {fr : Nat × Nat} (l : List UInt8) (vs : Array Value) (hv : vs = (l.map byteV).toArray) (hn : l.length = n) (hm : n ≤ maxLen) : Bytes (w.alloc (.cells vs E fr)) (some ⟨w.heap.size, 0, none⟩) n n l := by
  subst hv hn
  refine ⟨by simp, Nat.le_refl _, hm, fun i u hu => ⟨_, _, rfl, ?_⟩⟩
  rw [World.cell?_alloc_mark, Nat.zero_add]
  simpa using hu
theorem itemsV_putS {w : World} {g : Nat} {vs : List Value} {ls : List (List UInt8)} (h : ItemsV 1 encB id w (some g) vs ls) (k : Nat) (v : Value) : ItemsV 1 encB id (w.setCell ⟨g, k, none⟩ v) (some g) vs ls :=
  h.grew (grown_put (World.grownBy.refl w _) k v) (.inl rfl)
end Go.Proofs.Ytahphlcahaheiaa
