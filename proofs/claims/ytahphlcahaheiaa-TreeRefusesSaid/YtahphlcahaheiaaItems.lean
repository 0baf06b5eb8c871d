/- A row of the call's own whose elements hold byte slices: it grows by append, and what its elements read stays. -/
import Derived.Test.YtahphlcahaheiaaApp
namespace Go.Proofs.Ytahphlcahaheiaa
open Go.RowKit

theorem Bytes.lt {w : World} {A : Option Addr} {n c : Nat} {l : List UInt8} (h : Bytes w A n c l) (hn : 0 < n) : ∀ a, A = some a → a.block < w.heap.size := by
  intro a ha
  obtain ⟨b, off, e, hc⟩ := h.at_ hn
  rw [ha] at e
  injection e with e
  subst e
  exact World.block_lt_of_cell? w _ hc
/-- The slice lies in no block below B. -/
def Fresh (B : Nat) (A : Option Addr) : Prop := ∀ a, A = some a → B ≤ a.block
theorem Fresh.more {B B' : Nat} {A : Option Addr} (h : Fresh B A) (hB : B' ≤ B) : Fresh B' A := fun a ha => Nat.le_trans hB (h a ha)
theorem Fresh.own {w : World} {B e size n c : Nat} {A : Option Addr} {xs : List Value} (h : w.ownsRow B e size (.slice A n c) n xs) : Fresh B A := by
  intro a ha
  rcases h.2 with ⟨hv, _⟩ | ⟨g, cap, cur, hv, hB, _⟩
  · injection hv with h1 _ _; rw [ha] at h1; cases h1
  · injection hv with h1 _ _
    rw [ha] at h1; injection h1 with h1; subst h1; exact hB
/-- The slice lies in another block than the row. -/
def Off (A : Option Addr) (n : Nat) (bad : Option Nat) : Prop := ∀ a, A = some a → 0 < n → bad ≠ some a.block
theorem Off.fresh {B : Nat} {A : Option Addr} {n : Nat} {bad : Option Nat} (h : Fresh B A) (hb : ∀ k, bad = some k → k < B) : Off A n bad := fun a ha _ e => by
  have := h a ha; have := hb _ e; omega
theorem Bytes.kept {w w' : World} {A : Option Addr} {n c : Nat} {l : List UInt8} {bad : Option Nat} (h : Bytes w A n c l) (hg : w.grownBy w' bad) (ho : Off A n bad) : Bytes w' A n c l := by
  refine ⟨h.1, h.2.1, h.2.2.1, fun i u hu => ?_⟩
  obtain ⟨b, off, e, hc⟩ := h.2.2.2 i u hu
  have hi : i < (l.map byteV).length := by
    rcases Nat.lt_or_ge i (l.map byteV).length with h | h
    · exact h
    · rw [List.getElem?_eq_none h] at hu; cases hu
  have hn : 0 < n := by have := h.len; simp at hi; omega
  have hlt : b < w.heap.size := World.block_lt_of_cell? w _ hc
  have hbl := hg.block b hlt (fun e' => ho _ e hn e'.symm)
  exact ⟨b, off, e, (World.cell?_of_block (a := ⟨b, off + i, none⟩) hbl).trans hc⟩

section
variable {α : Type} {sz : Nat} {enc : α → Option Addr → Nat → Nat → List Value} {dat : α → List UInt8}
/-- The cells vs are those of the elements xs, whose bytes lie outside of block bad. -/
def ItemsV (sz : Nat) (enc : α → Option Addr → Nat → Nat → List Value) (dat : α → List UInt8) (w : World) (bad : Option Nat) (vs : List Value) (xs : List α) : Prop :=
  vs.length = xs.length * sz ∧ ∀ (i : Nat) (x : α), xs[i]? = some x → ∃ A n c, (∀ k, k < sz → vs[i * sz + k]? = (enc x A n c)[k]?) ∧ Bytes w A n c (dat x) ∧ Off A n bad
theorem ItemsV.nil (w : World) (bad : Option Nat) : ItemsV sz enc dat w bad [] [] := ⟨by simp, fun i x h => by simp at h⟩
theorem ItemsV.stays {w w' : World} {bad : Option Nat} {vs : List Value} {xs : List α} (h : ItemsV sz enc dat w bad vs xs) (hb : Below w.heap.size w w') : ItemsV sz enc dat w' bad vs xs :=
  ⟨h.1, fun i x hx => by obtain ⟨A, n, c, h1, h2, h3⟩ := h.2 i x hx; exact ⟨A, n, c, h1, h2.stays hb, h3⟩⟩
theorem ItemsV.grew {w w' : World} {bad bad' : Option Nat} {vs : List Value} {xs : List α} (h : ItemsV sz enc dat w bad vs xs) (hg : w.grownBy w' bad) (hb : bad' = bad ∨ bad' = some w.heap.size) : ItemsV sz enc dat w' bad' vs xs :=
  ⟨h.1, fun i x hx => by
    obtain ⟨A, n, c, h1, h2, h3⟩ := h.2 i x hx
    refine ⟨A, n, c, h1, h2.kept hg h3, fun a ha hn => ?_⟩
    rcases hb with rfl | rfl
    · exact h3 a ha hn
    · intro e
      injection e with e
      have := h2.lt hn a ha
      omega⟩
theorem ItemsV.snoc {w : World} {bad : Option Nat} {vs : List Value} {xs : List α} (h : ItemsV sz enc dat w bad vs xs) (x : α) (A : Option Addr) (n c : Nat) (hl : (enc x A n c).length = sz) (hb : Bytes w A n c (dat x)) (ho : Off A n bad) :
    ItemsV sz enc dat w bad (vs ++ enc x A n c) (xs ++ [x]) := by
  refine ⟨by rw [List.length_append, h.1, hl, List.length_append, List.length_singleton, Nat.add_mul, Nat.one_mul], fun i y hy => ?_⟩
  by_cases hi : i < xs.length
  · rw [List.getElem?_append_left hi] at hy
    obtain ⟨A', n', c', h1, h2, h3⟩ := h.2 i y hy
    refine ⟨A', n', c', fun k hk => ?_, h2, h3⟩
    have : i * sz + k < vs.length := by
      have e1 : (i + 1) * sz ≤ xs.length * sz := Nat.mul_le_mul_right _ hi
      rw [Nat.add_mul, Nat.one_mul] at e1
      rw [h.1]; omega
    rw [List.getElem?_append_left this]
    exact h1 k hk
  · rw [List.getElem?_append_right (by omega)] at hy
    have hi0 : i = xs.length := by
      rcases Nat.lt_or_ge (i - xs.length) 1 with h | h
      · omega
      · rw [List.getElem?_eq_none (by simpa using h)] at hy; cases hy
    subst hi0
    simp at hy
    subst hy
    refine ⟨A, n, c, fun k hk => ?_, hb, ho⟩
    rw [← h.1, List.getElem?_append_right (by omega), Nat.add_sub_cancel_left]
/-- '.slice A n c' is a row of the call's own (from block B on) with the elements xs. -/
def OwnItems (sz : Nat) (enc : α → Option Addr → Nat → Nat → List Value) (dat : α → List UInt8) (e : TypeId) (w : World) (B : Nat) (A : Option Addr) (n c : Nat) (xs : List α) : Prop :=
  ∃ vs, w.ownsRow B e sz (.slice A n c) n vs ∧ ItemsV sz enc dat w (Value.slice A n c).ownBlock vs xs
variable {e : TypeId} {w w' : World} {B n c : Nat} {A : Option Addr} {xs : List α}
theorem OwnItems.stays (h : OwnItems sz enc dat e w B A n c xs) (hb : Below w.heap.size w w') : OwnItems sz enc dat e w' B A n c xs := by
  obtain ⟨vs, h1, h2⟩ := h
  exact ⟨vs, own_below h1 hb, h2.stays hb⟩
theorem OwnItems.more {B' : Nat} (h : OwnItems sz enc dat e w B A n c xs) (hB : B' ≤ B) : OwnItems sz enc dat e w B' A n c xs := by
  obtain ⟨vs, h1, h2⟩ := h
  exact ⟨vs, own_more h1 hB, h2⟩
theorem OwnItems.nil (w : World) (B : Nat) : OwnItems sz enc dat e w B none 0 0 ([] : List α) := ⟨[], own_nil _ _ _ _, ItemsV.nil _ _⟩
theorem OwnItems.lt (h : OwnItems sz enc dat e w B A n c xs) : ∀ k, (Value.slice A n c).ownBlock = some k → k < w.heap.size := by
  obtain ⟨vs, h1, h2⟩ := h
  exact fun k hk => (h1.lt k hk).2
theorem OwnItems.rd (h : OwnItems sz enc dat e w B A n c xs) : ∃ vs, Rd w sz A n c vs ∧ ItemsV sz enc dat w (Value.slice A n c).ownBlock vs xs := by
  obtain ⟨vs, h1, h2⟩ := h
  exact ⟨vs, own_rd h1, h2⟩
theorem OwnItems.len (h : OwnItems sz enc dat e w B A n c xs) (hs : 0 < sz) : xs.length = n := by
  obtain ⟨vs, h1, h2⟩ := h.rd
  exact Nat.eq_of_mul_eq_mul_right hs (h2.1.symm.trans h1.1)
theorem OwnItems.le (h : OwnItems sz enc dat e w B A n c xs) : n ≤ c := by obtain ⟨vs, h1, _⟩ := h.rd; exact h1.2.1
theorem OwnItems.cap (h : OwnItems sz enc dat e w B A n c xs) : c ≤ 9223372036854775807 := by
  obtain ⟨vs, h1, _⟩ := h.rd
  have := h1.2.2.1
  unfold maxLen at this; omega
theorem run_append_items {P : Program} (t ty : TypeId) (i : TypeInfo) (z : Value) (bytes : Nat) (ht : P.underlying t = some (.slice e)) (hi : P.info? e = some i) (hz : i.zero = some z)
    (hsize : i.size = sz) (hby : i.bytes = bytes) (hzs : z.cells.size = sz) (hsz : 0 < sz)
    (hown : OwnItems sz enc dat e w B A n c xs) (x : α) {A1 A2 : Option Addr} {n1 c1 c2 : Nat} (hl : (enc x A1 n1 c1).length = sz) (hr : Rd w sz A2 1 c2 (enc x A1 n1 c1)) (h1 : ∀ u ∈ enc x A1 n1 c1, u.oneCell' = true)
    (hb : Bytes w A1 n1 c1 (dat x)) (ho : Off A1 n1 (Value.slice A n c).ownBlock)
    (h63 : n + 1 ≤ maxLen) (hbytes : (n + 1) * bytes ≤ 140737488355328) (hbase : B ≤ w.heap.size) :
    ∃ A' c' w', (Builtin.append_ #[t, t] ty #[.slice A n c, .slice A2 1 c2]).run P w = .ok (.slice A' (n + 1) c') w' ∧ OwnItems sz enc dat e w' B A' (n + 1) c' (xs ++ [x]) ∧ w.grownBy w' (Value.slice A n c).ownBlock ∧ Below B w w' := by
  obtain ⟨vs, hw, hv⟩ := hown
  obtain ⟨A', c', w', hrun, h2, h3, h4⟩ := run_append_rd (P := P) t ty i z bytes ht hi hz hsize hby hzs hsz hw hr h1 h63 hbytes hbase
  refine ⟨A', c', w', hrun, ⟨_, h2, (hv.grew h3 h4).snoc x A1 n1 c1 hl (hb.kept h3 ho) ?_⟩, h3, (Below.refl B w).grown h3 hbase (fun k hk => (hw.lt k hk).1)⟩
  intro a ha hn
  rcases h4 with h4 | h4
  · rw [h4]; exact ho a ha hn
  · rw [h4]
    intro e'
    injection e' with e'
    have := hb.lt hn a ha
    omega
theorem wpList_append_items {P : Program} {ops : Array Oper} {rest : List Oper} {o : Oper} {a : Act} {Q : Exit → Act → World → Prop} (hgd : o.guard = none) (s y : Operand) (t : TypeId)
    (hop : o.op = .call { callee := .builtin .append, args := #[s, y], argTypes := #[t, t] })
    (i : TypeInfo) (z : Value) (bytes : Nat) (ht : P.underlying t = some (.slice e)) (hi : P.info? e = some i) (hz : i.zero = some z)
    (hsize : i.size = sz) (hby : i.bytes = bytes) (hzs : z.cells.size = sz) (hsz : 0 < sz)
    (hs : a.eval s = .slice A n c) (hown : OwnItems sz enc dat e w B A n c xs) {A1 A2 : Option Addr} {n1 c1 c2 : Nat} (hy : a.eval y = .slice A2 1 c2) (x : α) (hl : (enc x A1 n1 c1).length = sz) (hr : Rd w sz A2 1 c2 (enc x A1 n1 c1)) (h1 : ∀ u ∈ enc x A1 n1 c1, u.oneCell' = true)
    (hb : Bytes w A1 n1 c1 (dat x)) (ho : Off A1 n1 (Value.slice A n c).ownBlock)
    (h63 : n + 1 ≤ maxLen) (hbytes : (n + 1) * bytes ≤ 140737488355328) (hbase : B ≤ w.heap.size)
    (h : ∀ A' c' w', OwnItems sz enc dat e w' B A' (n + 1) c' (xs ++ [x]) → w.grownBy w' (Value.slice A n c).ownBlock → Below B w w' →
      wpList P ops Q rest (a.put o.dst (.slice A' (n + 1) c')) w') : wpList P ops Q (o :: rest) a w := by
  obtain ⟨A', c', w', hrun, h2, h3, h4⟩ := run_append_items (P := P) t o.type i z bytes ht hi hz hsize hby hzs hsz hown x hl hr h1 hb ho h63 hbytes hbase
  exact Lib.wpList_append_run w hgd s y t t hop _ _ hs hy _ _ hrun (h A' c' w' h2 h3 h4)
theorem step_append_items {P : Program} {ops : Array Oper} {o : Oper} {a : Act} {K : Act → World → Prop} {Q : Exit → Act → World → Prop} {E : Prop} (hgd : o.guard = none) (s y : Operand) (t : TypeId)
    (hop : o.op = .call { callee := .builtin .append, args := #[s, y], argTypes := #[t, t] })
    (i : TypeInfo) (z : Value) (bytes : Nat) (ht : P.underlying t = some (.slice e)) (hi : P.info? e = some i) (hz : i.zero = some z)
    (hsize : i.size = sz) (hby : i.bytes = bytes) (hzs : z.cells.size = sz) (hsz : 0 < sz)
    (hs : a.eval s = .slice A n c) (hown : OwnItems sz enc dat e w B A n c xs) {A1 A2 : Option Addr} {n1 c1 c2 : Nat} (hy : a.eval y = .slice A2 1 c2) (x : α) (hl : (enc x A1 n1 c1).length = sz) (hr : Rd w sz A2 1 c2 (enc x A1 n1 c1)) (h1 : ∀ u ∈ enc x A1 n1 c1, u.oneCell' = true)
    (hb : Bytes w A1 n1 c1 (dat x)) (ho : Off A1 n1 (Value.slice A n c).ownBlock)
    (h63 : n + 1 ≤ maxLen) (hbytes : (n + 1) * bytes ≤ 140737488355328) (hbase : B ≤ w.heap.size)
    (h : ∀ A' c' w', OwnItems sz enc dat e w' B A' (n + 1) c' (xs ++ [x]) → w.grownBy w' (Value.slice A n c).ownBlock → Below B w w' → K (a.put o.dst (.slice A' (n + 1) c')) w') :
    if Region.wanted o (yielded ops a.tmps) = true then Oper.wp P o a w K Q else E := by
  have hw : Region.wanted o (yielded ops a.tmps) = true := by simp [Region.wanted, hgd]
  rw [if_pos hw]
  obtain ⟨A', c', w', hrun, h2, h3, h4⟩ := run_append_items (P := P) t o.type i z bytes ht hi hz hsize hby hzs hsz hown x hl hr h1 hb ho h63 hbytes hbase
  unfold Oper.wp
  simp [execOp, hop, resolve, invoke, builtin, hs, hy, hrun, Result.andThen]
  exact h A' c' w' h2 h3 h4
end
section
variable {P : Program} {w : World} {B e size n c m c2 : Nat} {A A2 : Option Addr} {xs news : List Value}
theorem step_append_own {ops : Array Oper} {o : Oper} {a : Act} {K : Act → World → Prop} {Q : Exit → Act → World → Prop} {E : Prop} (hgd : o.guard = none) (s x : Operand) (t : TypeId)
    (ho : o.op = .call { callee := .builtin .append, args := #[s, x], argTypes := #[t, t] })
    (i : TypeInfo) (z : Value) (bytes : Nat) (ht : P.underlying t = some (.slice e)) (hi : P.info? e = some i) (hz : i.zero = some z)
    (hsize : i.size = size) (hby : i.bytes = bytes) (hzs : z.cells.size = size) (hsz : 0 < size)
    (hs : a.eval s = .slice A n c) (hown : w.ownsRow B e size (.slice A n c) n xs) (hx : a.eval x = .slice A2 m c2) (hr : Rd w size A2 m c2 news) (h1 : ∀ u ∈ news, u.oneCell' = true)
    (h63 : n + m ≤ maxLen) (hbytes : (n + m) * bytes ≤ 140737488355328) (hbase : B ≤ w.heap.size)
    (h : ∀ A' c' w', w'.ownsRow B e size (.slice A' (n + m) c') (n + m) (xs ++ news) → w.grownBy w' (Value.slice A n c).ownBlock → Below B w w' → K (a.put o.dst (.slice A' (n + m) c')) w') :
    if Region.wanted o (yielded ops a.tmps) = true then Oper.wp P o a w K Q else E := by
  have hw : Region.wanted o (yielded ops a.tmps) = true := by simp [Region.wanted, hgd]
  rw [if_pos hw]
  obtain ⟨A', c', w', hrun, h2, h3, h4⟩ := run_append_rd (P := P) t o.type i z bytes ht hi hz hsize hby hzs hsz hown hr h1 h63 hbytes hbase
  unfold Oper.wp
  simp [execOp, ho, resolve, invoke, builtin, hs, hx, hrun, Result.andThen]
  exact h A' c' w' h2 h3 ((Below.refl B w).grown h3 hbase (fun k hk => (hown.lt k hk).1))
end
/-- Byte slices. -/
def encB (_ : List UInt8) (A : Option Addr) (n c : Nat) : List Value := [.slice A n c]
theorem OwnItems.lists {e : TypeId} {w : World} {B n c : Nat} {A : Option Addr} {ls : List (List UInt8)} (h : OwnItems 1 encB id e w B A n c ls) : Lists w A n c ls := by
  obtain ⟨vs, h1, h2⟩ := h.rd
  refine ⟨vs, h1, by have := h2.1; omega, fun i l hl => ?_⟩
  obtain ⟨A', n', c', e1, e2, _⟩ := h2.2 i l hl
  exact ⟨A', n', c', by have := e1 0 (by omega); simpa [encB] using this, e2⟩
theorem ItemsV.lists {w : World} {bad : Option Nat} {vs : List Value} {ls : List (List UInt8)} {A : Option Addr} {n c : Nat} (h : ItemsV 1 encB id w bad vs ls) (hr : Rd w 1 A n c vs) : Lists w A n c ls :=
  ⟨vs, hr, by have := h.1; omega, fun i l hl => by
    obtain ⟨A', n', c', e1, e2, _⟩ := h.2 i l hl
    exact ⟨A', n', c', by have := e1 0 (by omega); simpa [encB] using this, e2⟩⟩
end Go.Proofs.Ytahphlcahaheiaa
