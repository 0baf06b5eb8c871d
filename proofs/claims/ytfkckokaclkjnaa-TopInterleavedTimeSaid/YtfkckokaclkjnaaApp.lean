/- append onto a row of the call's own, whatever the source; lists of byte slices. -/
import Derived.Test.YtfkckokaclkjnaaBase
import Derived.Maps.AppendAt
import Derived.Lib.AppendZeros
import Derived.Laws.AppendOwnNone
import Derived.OwnWalk
namespace Go.Proofs.Ytfkckokaclkjnaa
open Go.RowKit

section
variable {P : Program} {w : World} {B e size n c m c2 : Nat} {A A2 : Option Addr} {xs news : List Value}

theorem own_form {v : Value} (h : w.ownsRow B e size v n xs) : ∃ A c, v = .slice A n c := by
  rcases h.2 with ⟨rfl, rfl⟩ | ⟨g, cap, cur, rfl, _⟩
  · exact ⟨_, _, rfl⟩
  · exact ⟨_, _, rfl⟩
theorem own_rd (h : w.ownsRow B e size (.slice A n c) n xs) : Rd w size A n c xs := by
  obtain ⟨hl, h2⟩ := h
  rcases h2 with ⟨hv, h0⟩ | ⟨g, cap, cur, hv, hB, hg, hn, hc, hs, ht⟩
  · injection hv with h1 h2 h3
    subst h1 h2 h3
    have : xs = [] := List.eq_nil_of_length_eq_zero (by simpa using hl)
    subst this
    exact Rd.nil _ _ _ (by decide) _
  · injection hv with h1 h2 h3
    subst h1 h3
    refine ⟨hl, hn, hc, fun i u hu => ⟨g, 0, rfl, ?_⟩⟩
    rw [← ht, List.getElem?_take] at hu
    split at hu
    · rw [Nat.zero_add, cell_of_row w g i cur e (0, 0) hg]; simpa using hu
    · cases hu
theorem grown_of_below {a w : World} (h : Below a.heap.size a w) (row : Option Nat) : a.grownBy w row := ⟨h.os, h.tape, h.output, h.size, fun i hi _ => h.block i hi⟩
theorem own_below {v : Value} {w' : World} (h : w.ownsRow B e size v n xs) (hb : Below w.heap.size w w') : w'.ownsRow B e size v n xs :=
  h.kept (grown_of_below hb none) (by cases v.ownBlock <;> simp)
theorem own_nil (w : World) (B e size : Nat) : w.ownsRow B e size (.slice none 0 0) 0 [] := World.ownsRow_nil w B e size

theorem run_append_rd (t ty : TypeId) (i : TypeInfo) (z : Value) (bytes : Nat) (ht : P.underlying t = some (.slice e)) (hi : P.info? e = some i) (hz : i.zero = some z)
    (hsize : i.size = size) (hby : i.bytes = bytes) (hzs : z.cells.size = size) (hsz : 0 < size)
    (hown : w.ownsRow B e size (.slice A n c) n xs) (hr : Rd w size A2 m c2 news) (h1 : ∀ u ∈ news, u.oneCell' = true)
    (h63 : n + m ≤ maxLen) (hbytes : (n + m) * bytes ≤ 140737488355328) (hbase : B ≤ w.heap.size) :
    ∃ A' c' w', (Builtin.append_ #[t, t] ty #[.slice A n c, .slice A2 m c2]).run P w = .ok (.slice A' (n + m) c') w' ∧ w'.ownsRow B e size (.slice A' (n + m) c') (n + m) (xs ++ news) ∧
      w.grownBy w' (Value.slice A n c).ownBlock ∧ ((Value.slice A' (n + m) c').ownBlock = (Value.slice A n c).ownBlock ∨ (Value.slice A' (n + m) c').ownBlock = some w.heap.size) := by
  have hnews : ∀ ad, A2 = some ad → ∀ j u, news[j]? = some u → w.cell? (ad.add j) = some u := by
    intro ad hA j u hu
    obtain ⟨b, off, e, hc⟩ := hr.2.2.2 j u hu
    rw [hA] at e
    injection e with e
    subst e
    rw [add_off]; exact hc
  cases A2 with
  | none =>
    have hm : news = [] := by
      cases news with
      | nil => rfl
      | cons u us =>
        obtain ⟨b, off, e, _⟩ := hr.2.2.2 0 u rfl
        cases e
    subst hm
    have hm0 : m = 0 := by
      have h0 : m * size = 0 := hr.1.symm
      rcases Nat.mul_eq_zero.1 h0 with h | h
      · exact h
      · omega
    subst hm0
    have hr0 : (Builtin.append_ #[t, t] ty #[.slice A n c, .slice none 0 c2]).run P w = .ok (.slice A n c) w := by
      rcases hown.2 with ⟨hv, rfl⟩ | ⟨g, cap, cur, hv, _, _, hnc, _⟩
      · injection hv with a1 a2 a3
        subst a1 a3
        simp [Builtin.append_, run_underlying ht, sizeOf, typeInfo, hi, Builtin.lenOf, Builtin.firstCells]
      · injection hv with a1 a2 a3
        subst a1 a3
        simp [Builtin.append_, run_underlying ht, sizeOf, typeInfo, hi, Builtin.lenOf, Builtin.firstCells, hnc, storeCells]
    exact ⟨A, c, w, hr0, by simpa using hown, World.grownBy.refl w _, .inl rfl⟩
  | some ad =>
    obtain ⟨v', w', hrun, h2, h3, _, h5⟩ := run_append_own_at (P := P) w B t ty e i z size bytes ht hi hz hsize hby hzs hsz _ n xs hown ad m c2 news hr.1 (hnews ad rfl) h1 h63 hbytes hbase
    obtain ⟨A', c', rfl⟩ := own_form h2
    exact ⟨A', c', w', hrun, h2, h3, h5⟩

/-- The walk's law. -/
theorem wpList_append_rd {ops : Array Oper} {rest : List Oper} {o : Oper} {a : Act} {Q : Exit → Act → World → Prop} (hgd : o.guard = none) (s x : Operand) (t : TypeId)
    (ho : o.op = .call { callee := .builtin .append, args := #[s, x], argTypes := #[t, t] })
    (i : TypeInfo) (z : Value) (bytes : Nat) (ht : P.underlying t = some (.slice e)) (hi : P.info? e = some i) (hz : i.zero = some z)
    (hsize : i.size = size) (hby : i.bytes = bytes) (hzs : z.cells.size = size) (hsz : 0 < size)
    (hs : a.eval s = .slice A n c) (hown : w.ownsRow B e size (.slice A n c) n xs) (hx : a.eval x = .slice A2 m c2) (hr : Rd w size A2 m c2 news) (h1 : ∀ u ∈ news, u.oneCell' = true)
    (h63 : n + m ≤ maxLen) (hbytes : (n + m) * bytes ≤ 140737488355328) (hbase : B ≤ w.heap.size)
    (h : ∀ A' c' w', w'.ownsRow B e size (.slice A' (n + m) c') (n + m) (xs ++ news) → w.grownBy w' (Value.slice A n c).ownBlock → Below B w w' →
      wpList P ops Q rest (a.put o.dst (.slice A' (n + m) c')) w') : wpList P ops Q (o :: rest) a w := by
  obtain ⟨A', c', w', hrun, h2, h3, h4⟩ := run_append_rd (P := P) t o.type i z bytes ht hi hz hsize hby hzs hsz hown hr h1 h63 hbytes hbase
  exact Lib.wpList_append_run w hgd s x t t ho _ _ hs hx _ _ hrun (h A' c' w' h2 h3 ((Below.refl B w).grown h3 hbase (fun k hk => (hown.lt k hk).1)))
end

theorem oneCell_bytes (l : List UInt8) : ∀ u ∈ l.map byteV, u.oneCell' = true := by
  intro u hu
  obtain ⟨x, _, rfl⟩ := List.mem_map.1 hu
  rfl

/-- '.slice A n c' holds the byte slices ls. -/
def Lists (w : World) (A : Option Addr) (n c : Nat) (ls : List (List UInt8)) : Prop :=
  ∃ vs : List Value, Rd w 1 A n c vs ∧ vs.length = ls.length ∧ ∀ (i : Nat) (l : List UInt8), ls[i]? = some l → ∃ A' n' c', vs[i]? = some (.slice A' n' c') ∧ Bytes w A' n' c' l
def listAt (ls : List (List UInt8)) (i : Nat) : List UInt8 := ls.getD i []
section
variable {w w' : World} {A : Option Addr} {n c : Nat} {ls : List (List UInt8)}
theorem Lists.stays (h : Lists w A n c ls) (hb : Below w.heap.size w w') : Lists w' A n c ls := by
  obtain ⟨vs, h1, h2, h3⟩ := h
  refine ⟨vs, h1.stays hb, h2, fun i l hl => ?_⟩
  obtain ⟨A', n', c', e, hy⟩ := h3 i l hl
  exact ⟨A', n', c', e, hy.stays hb⟩
theorem Lists.len (h : Lists w A n c ls) : ls.length = n := by
  obtain ⟨vs, h1, h2, _⟩ := h
  have := h1.1
  omega
theorem Lists.le (h : Lists w A n c ls) : n ≤ c := by obtain ⟨vs, h1, _⟩ := h; exact h1.2.1
theorem Lists.cap (h : Lists w A n c ls) : c ≤ 9223372036854775807 := by
  obtain ⟨vs, h1, _⟩ := h
  have := h1.2.2.1
  unfold maxLen at this; omega
theorem Lists.at_ (h : Lists w A n c ls) {i : Nat} (hi : i < n) : ∃ b off A' n' c', A = some ⟨b, off, none⟩ ∧ w.cell? ⟨b, off + i, none⟩ = some (.slice A' n' c') ∧ Bytes w A' n' c' (listAt ls i) := by
  have hl := h.len
  obtain ⟨vs, h1, h2, h3⟩ := h
  have hli : i < ls.length := by omega
  obtain ⟨A', n', c', e, hy⟩ := h3 i (listAt ls i) (by simp [listAt, hli, List.getD])
  obtain ⟨b, off, ha, hc⟩ := h1.2.2.2 i _ e
  exact ⟨b, off, A', n', c', ha, hc, hy⟩
end
theorem lists_made {w : World} {E : TypeId} {vs : List Value} {ls : List (List UInt8)} (hl : vs.length = ls.length) (hm : vs.length ≤ maxLen)
    (h : ∀ (i : Nat) (l : List UInt8), ls[i]? = some l → ∃ A' n' c', vs[i]? = some (.slice A' n' c') ∧ Bytes w A' n' c' l) :
    Lists (w.alloc (.cells vs.toArray E)) (some ⟨w.heap.size, 0, none⟩) vs.length vs.length ls := by
  refine ⟨vs, ⟨by simp, Nat.le_refl _, hm, fun i u hu => ⟨_, _, rfl, ?_⟩⟩, hl, fun i l hi => ?_⟩
  · rw [World.cell?_alloc_at _ _ _ _ rfl, Nat.zero_add]; simpa using hu
  · obtain ⟨A', n', c', e, hy⟩ := h i l hi
    exact ⟨A', n', c', e, hy.stays ((Below.refl _ _).alloc (Nat.le_refl _) _)⟩
theorem lists_made1 {w : World} {E : TypeId} {A1 : Option Addr} {n1 c1 : Nat} {l1 : List UInt8} (h1 : Bytes w A1 n1 c1 l1) :
    Lists (w.alloc (.cells #[.slice A1 n1 c1] E)) (some ⟨w.heap.size, 0, none⟩) 1 1 [l1] :=
  lists_made (vs := [.slice A1 n1 c1]) rfl (by simp [maxLen]) fun i l hi => by
    match i, hi with
    | 0, hi => simp at hi; subst hi; exact ⟨_, _, _, rfl, h1⟩
theorem lists_made2 {w : World} {E : TypeId} {A1 : Option Addr} {n1 c1 : Nat} {l1 : List UInt8} (h1 : Bytes w A1 n1 c1 l1) {A2 : Option Addr} {n2 c2 : Nat} {l2 : List UInt8} (h2 : Bytes w A2 n2 c2 l2) :
    Lists (w.alloc (.cells #[.slice A1 n1 c1, .slice A2 n2 c2] E)) (some ⟨w.heap.size, 0, none⟩) 2 2 [l1, l2] :=
  lists_made (vs := [.slice A1 n1 c1, .slice A2 n2 c2]) rfl (by simp [maxLen]) fun i l hi => by
    match i, hi with
    | 0, hi => simp at hi; subst hi; exact ⟨_, _, _, rfl, h1⟩
    | 1, hi => simp at hi; subst hi; exact ⟨_, _, _, rfl, h2⟩
theorem lists_made3 {w : World} {E : TypeId} {A1 : Option Addr} {n1 c1 : Nat} {l1 : List UInt8} (h1 : Bytes w A1 n1 c1 l1) {A2 : Option Addr} {n2 c2 : Nat} {l2 : List UInt8} (h2 : Bytes w A2 n2 c2 l2) {A3 : Option Addr} {n3 c3 : Nat} {l3 : List UInt8} (h3 : Bytes w A3 n3 c3 l3) :
    Lists (w.alloc (.cells #[.slice A1 n1 c1, .slice A2 n2 c2, .slice A3 n3 c3] E)) (some ⟨w.heap.size, 0, none⟩) 3 3 [l1, l2, l3] :=
  lists_made (vs := [.slice A1 n1 c1, .slice A2 n2 c2, .slice A3 n3 c3]) rfl (by simp [maxLen]) fun i l hi => by
    match i, hi with
    | 0, hi => simp at hi; subst hi; exact ⟨_, _, _, rfl, h1⟩
    | 1, hi => simp at hi; subst hi; exact ⟨_, _, _, rfl, h2⟩
    | 2, hi => simp at hi; subst hi; exact ⟨_, _, _, rfl, h3⟩
theorem lists_made4 {w : World} {E : TypeId} {A1 : Option Addr} {n1 c1 : Nat} {l1 : List UInt8} (h1 : Bytes w A1 n1 c1 l1) {A2 : Option Addr} {n2 c2 : Nat} {l2 : List UInt8} (h2 : Bytes w A2 n2 c2 l2) {A3 : Option Addr} {n3 c3 : Nat} {l3 : List UInt8} (h3 : Bytes w A3 n3 c3 l3) {A4 : Option Addr} {n4 c4 : Nat} {l4 : List UInt8} (h4 : Bytes w A4 n4 c4 l4) :
    Lists (w.alloc (.cells #[.slice A1 n1 c1, .slice A2 n2 c2, .slice A3 n3 c3, .slice A4 n4 c4] E)) (some ⟨w.heap.size, 0, none⟩) 4 4 [l1, l2, l3, l4] :=
  lists_made (vs := [.slice A1 n1 c1, .slice A2 n2 c2, .slice A3 n3 c3, .slice A4 n4 c4]) rfl (by simp [maxLen]) fun i l hi => by
    match i, hi with
    | 0, hi => simp at hi; subst hi; exact ⟨_, _, _, rfl, h1⟩
    | 1, hi => simp at hi; subst hi; exact ⟨_, _, _, rfl, h2⟩
    | 2, hi => simp at hi; subst hi; exact ⟨_, _, _, rfl, h3⟩
    | 3, hi => simp at hi; subst hi; exact ⟨_, _, _, rfl, h4⟩
theorem lists_made5 {w : World} {E : TypeId} {A1 : Option Addr} {n1 c1 : Nat} {l1 : List UInt8} (h1 : Bytes w A1 n1 c1 l1) {A2 : Option Addr} {n2 c2 : Nat} {l2 : List UInt8} (h2 : Bytes w A2 n2 c2 l2) {A3 : Option Addr} {n3 c3 : Nat} {l3 : List UInt8} (h3 : Bytes w A3 n3 c3 l3) {A4 : Option Addr} {n4 c4 : Nat} {l4 : List UInt8} (h4 : Bytes w A4 n4 c4 l4) {A5 : Option Addr} {n5 c5 : Nat} {l5 : List UInt8} (h5 : Bytes w A5 n5 c5 l5) :
    Lists (w.alloc (.cells #[.slice A1 n1 c1, .slice A2 n2 c2, .slice A3 n3 c3, .slice A4 n4 c4, .slice A5 n5 c5] E)) (some ⟨w.heap.size, 0, none⟩) 5 5 [l1, l2, l3, l4, l5] :=
  lists_made (vs := [.slice A1 n1 c1, .slice A2 n2 c2, .slice A3 n3 c3, .slice A4 n4 c4, .slice A5 n5 c5]) rfl (by simp [maxLen]) fun i l hi => by
    match i, hi with
    | 0, hi => simp at hi; subst hi; exact ⟨_, _, _, rfl, h1⟩
    | 1, hi => simp at hi; subst hi; exact ⟨_, _, _, rfl, h2⟩
    | 2, hi => simp at hi; subst hi; exact ⟨_, _, _, rfl, h3⟩
    | 3, hi => simp at hi; subst hi; exact ⟨_, _, _, rfl, h4⟩
    | 4, hi => simp at hi; subst hi; exact ⟨_, _, _, rfl, h5⟩
theorem take_flatten (ls : List (List UInt8)) (i : Nat) (h : i < ls.length) : (ls.take (i + 1)).flatten = (ls.take i).flatten ++ listAt ls i := by
  have e : listAt ls i = ls[i] := by simp [listAt, h, List.getD]
  rw [List.take_succ_eq_append_getElem h, e, List.flatten_append, List.flatten_cons, List.flatten_nil, List.append_nil]
theorem flatten_take_le (ls : List (List UInt8)) (i : Nat) : (ls.take i).flatten.length ≤ ls.flatten.length := by
  conv => rhs; rw [← List.take_append_drop i ls, List.flatten_append, List.length_append]
  omega
theorem own_alloc {w : World} {B e size n : Nat} {v : Value} {xs : List Value} (h : w.ownsRow B e size v n xs) (o : Obj) : (w.alloc o).ownsRow B e size v n xs := h.alloc o
theorem own_more {w : World} {B B' e size n : Nat} {v : Value} {xs : List Value} (h : w.ownsRow B e size v n xs) (hB : B' ≤ B) : w.ownsRow B' e size v n xs := by
  obtain ⟨h1, h2⟩ := h
  refine ⟨h1, ?_⟩
  rcases h2 with h2 | ⟨g, cap, cur, e1, hg, r⟩
  · exact .inl h2
  · exact .inr ⟨g, cap, cur, e1, by omega, r⟩
theorem rd_one (w : World) (v : Value) (e : TypeId) : Rd (w.alloc (.cells #[v] e)) 1 (some ⟨w.heap.size, 0, none⟩) 1 1 [v] := by
  refine ⟨rfl, Nat.le_refl _, by decide, fun i u hu => ⟨w.heap.size, 0, rfl, ?_⟩⟩
  match i, hu with
  | 0, hu => simp at hu; subst hu; rw [cell_of_row _ _ _ _ _ (0, 0) (heap_alloc_new _ _)]; rfl
  | i + 1, hu => simp at hu
theorem infoByteA : (Try.prog.info? 5).map (fun i => (i.zero, i.size, i.bytes)) = some (some (.int .u8 0), 1, 1) := by kernel_rfl
end Go.Proofs.Ytfkckokaclkjnaa
