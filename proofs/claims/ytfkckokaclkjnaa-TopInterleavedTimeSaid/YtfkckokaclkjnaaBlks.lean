/- Several new blocks at once. -/
import Derived.Test.YtfkckokaclkjnaaBlk
namespace Go.Proofs.Ytfkckokaclkjnaa
open Go.RowKit

section
variable (w : World) (o o1 o2 o3 : Obj)
theorem below_alloc1 : Below w.heap.size w (w.alloc o) := (Below.refl _ _).alloc (Nat.le_refl _) _
theorem below_alloc2 : Below w.heap.size w ((w.alloc o).alloc o1) := (below_alloc1 w o).alloc (by simp) _
theorem below_alloc3 : Below w.heap.size w (((w.alloc o).alloc o1).alloc o2) := (below_alloc2 w o o1).alloc (by simp; omega) _
theorem below_alloc4 : Below w.heap.size w ((((w.alloc o).alloc o1).alloc o2).alloc o3) := (below_alloc3 w o o1 o2).alloc (by simp; omega) _
end
section
variable (w : World) (c0 : Array Value) (t0 : TypeId) (c1 : Array Value) (t1 : TypeId) (c2 : Array Value) (t2 : TypeId) (c3 : Array Value) (t3 : TypeId)
theorem blk_new1_0 : Blk (w.alloc (.cells c0 t0)) w.heap.size t0 c0 := Blk.new _ _ _
theorem blk_new2_0 : Blk ((w.alloc (.cells c0 t0)).alloc (.cells c1 t1)) w.heap.size t0 c0 := (Blk.new _ _ _).stays (below_alloc1 _ _)
theorem blk_new2_1 : Blk ((w.alloc (.cells c0 t0)).alloc (.cells c1 t1)) (w.heap.size + 1) t1 c1 := by
  have := Blk.new (w.alloc (.cells c0 t0)) t1 c1
  simpa using this
theorem blk_new3_0 : Blk (((w.alloc (.cells c0 t0)).alloc (.cells c1 t1)).alloc (.cells c2 t2)) w.heap.size t0 c0 := (blk_new2_0 w c0 t0 c1 t1).stays (below_alloc1 _ _)
theorem blk_new3_1 : Blk (((w.alloc (.cells c0 t0)).alloc (.cells c1 t1)).alloc (.cells c2 t2)) (w.heap.size + 1) t1 c1 := (blk_new2_1 w c0 t0 c1 t1).stays (below_alloc1 _ _)
theorem blk_new3_2 : Blk (((w.alloc (.cells c0 t0)).alloc (.cells c1 t1)).alloc (.cells c2 t2)) (w.heap.size + 1 + 1) t2 c2 := by
  have := Blk.new ((w.alloc (.cells c0 t0)).alloc (.cells c1 t1)) t2 c2
  simpa using this
theorem blk_new4_0 : Blk ((((w.alloc (.cells c0 t0)).alloc (.cells c1 t1)).alloc (.cells c2 t2)).alloc (.cells c3 t3)) w.heap.size t0 c0 := (blk_new3_0 w c0 t0 c1 t1 c2 t2).stays (below_alloc1 _ _)
theorem blk_new4_1 : Blk ((((w.alloc (.cells c0 t0)).alloc (.cells c1 t1)).alloc (.cells c2 t2)).alloc (.cells c3 t3)) (w.heap.size + 1) t1 c1 := (blk_new3_1 w c0 t0 c1 t1 c2 t2).stays (below_alloc1 _ _)
theorem blk_new4_2 : Blk ((((w.alloc (.cells c0 t0)).alloc (.cells c1 t1)).alloc (.cells c2 t2)).alloc (.cells c3 t3)) (w.heap.size + 1 + 1) t2 c2 := (blk_new3_2 w c0 t0 c1 t1 c2 t2).stays (below_alloc1 _ _)
theorem blk_new4_3 : Blk ((((w.alloc (.cells c0 t0)).alloc (.cells c1 t1)).alloc (.cells c2 t2)).alloc (.cells c3 t3)) (w.heap.size + 1 + 1 + 1) t3 c3 := by
  have := Blk.new (((w.alloc (.cells c0 t0)).alloc (.cells c1 t1)).alloc (.cells c2 t2)) t3 c3
  simpa using this
end
/-- A store of what is there already. -/
theorem Blk.again {w : World} {g : Nat} {t : TypeId} {cs : Array Value} (h : Blk w g t cs) (i : Nat) (v : Value) (hv : cs[i]? = some v) : w.setCell ⟨g, i, none⟩ v = w := by
  have hc : cs.setIfInBounds i v = cs := by
    apply Array.ext_getElem?
    intro j
    rw [Array.getElem?_setIfInBounds]
    split
    · rename_i e
      subst e
      rw [hv]
      split
      · rfl
      · rename_i hn
        rw [Array.getElem?_eq_none (by omega)] at hv; cases hv
    · rfl
  have hh : (w.setCell ⟨g, i, none⟩ v).heap = w.heap := by
    apply Array.ext_getElem?
    intro j
    by_cases e : j = g
    · subst e
      have := h.put i v
      rw [hc] at this
      exact this.trans h.symm
    · exact Below.heap_setCell w ⟨g, i, none⟩ v j e
  show { w with heap := (w.setCell ⟨g, i, none⟩ v).heap } = w
  rw [hh]
end Go.Proofs.Ytfkckokaclkjnaa
