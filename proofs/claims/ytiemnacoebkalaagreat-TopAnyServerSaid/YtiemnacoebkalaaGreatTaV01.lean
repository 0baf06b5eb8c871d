import Derived.Maps.AppendAt
import Derived.Lib.AppendZeros
import Derived.Laws.AppendOwnNone
import Derived.OwnWalk
import Derived.Test.YtiemnacoebkalaaGreatTaV00
set_option linter.all false
set_option maxRecDepth 100000
set_option maxHeartbeats 4000000
namespace Go.Proofs.YtiemnacoebkalaaGreat
open Go.RowKit
section
variable {P : Program} {w : World} {B e size n c m c2 : Nat} {A A2 : Option Addr} {xs news : List Value}
theorem own_form {v : Value} (h : w.ownsRow B e size v n xs) : ∃ A c, v = .slice A n c := by
 rcases h.2 with ⟨rfl, rfl⟩ | ⟨g, cap, cur, rfl, _⟩
 · exact ⟨_, _, rfl⟩
 · exact ⟨_, _, rfl⟩
theorem own_rd (h : w.ownsRow B e size (.slice A n c) n xs) : Rd w size A n c xs := by
 obtain ⟨hl, h2⟩ := h; rcases h2 with ⟨hv, h0⟩ | ⟨g, cap, cur, hv, hB, hg, hn, hc, hs, ht⟩
 · injection hv with h1 h2 h3
   subst h1 h2 h3; have : xs = [] := List.eq_nil_of_length_eq_zero (by simpa using hl); subst this; exact Rd.nil _ _ _ (by decide) _
 · injection hv with h1 h2 h3
   subst h1 h3; refine ⟨hl, hn, hc, fun i u hu => ⟨g, 0, rfl, ?_⟩⟩; rw [<- ht, List.getElem?_take] at hu
   split at hu
   · rw [Nat.zero_add, cell_of_row w g i cur e (0, 0) hg]; simpa using hu
   · cases hu
theorem grown_of_below {a w : World} (h : Below a.heap.size a w) (row : Option Nat) : a.grownBy w row := ⟨h.os, h.tape, h.output, h.size, fun i hi _ => h.block i hi⟩
theorem own_below {v : Value} {w' : World} (h : w.ownsRow B e size v n xs) (hb : Below w.heap.size w w') : w'.ownsRow B e size v n xs :=
 h.kept (grown_of_below hb none) (by cases v.ownBlock <;> simp)
theorem own_nil (w : World) (B e size : Nat) : w.ownsRow B e size (.slice none 0 0) 0 [] := World.ownsRow_nil w B e size

theorem run_append_rd (t ty : TypeId) (i : TypeInfo) (z : Value) (bytes : Nat) (ht : P.underlying t = some (.slice e)) (hi : P.info? e = some i) (hz : i.zero = some z)
    (hsize : i.size = size) (hby : i.bytes = bytes) (hzs : z.cells.size = size) (hsz : 0 < size)
    (hown : w.ownsRow B e size (.slice A n c) n xs) (hr : Rd w size A2 m c2 news) (h1 : ∀ u ∈ news, u.oneCell' = true)
    (h63 : n + m <= maxLen) (hbytes : (n + m) * bytes <= 140737488355328) (hbase : B <= w.heap.size) :
    ∃ A' c' w', (Builtin.append_ #[t, t] ty #[.slice A n c, .slice A2 m c2]).run P w = .ok (.slice A' (n + m) c') w' ∧ w'.ownsRow B e size (.slice A' (n + m) c') (n + m) (xs ++ news) ∧
     w.grownBy w' (Value.slice A n c).ownBlock ∧ ((Value.slice A' (n + m) c').ownBlock = (Value.slice A n c).ownBlock ∨ (Value.slice A' (n + m) c').ownBlock = some w.heap.size) := by
 have hnews : ∀ ad, A2 = some ad -> ∀ j u, news[j]? = some u -> w.cell? (ad.add j) = some u := by
  intro ad hA j u hu; obtain ⟨b, off, e, hc⟩ := hr.2.2.2 j u hu; rw [hA] at e; injection e with e
  subst e; rw [add_off]; exact hc
 cases A2 with
 | none =>
  have hm : news = [] := by
   cases news with
   | nil => rfl
   | cons u us =>
    obtain ⟨b, off, e, _⟩ := hr.2.2.2 0 u rfl
    cases e
  subst hm; have hm0 : m = 0 := by
   have h0 : m * size = 0 := hr.1.symm; rcases Nat.mul_eq_zero.1 h0 with h | h
   · exact h
   · omega
  subst hm0; have hr0 : (Builtin.append_ #[t, t] ty #[.slice A n c, .slice none 0 c2]).run P w = .ok (.slice A n c) w := by
   rcases hown.2 with ⟨hv, rfl⟩ | ⟨g, cap, cur, hv, _, _, hnc, _⟩
   · injection hv with a1 a2 a3
     subst a1 a3; simp [Builtin.append_, run_underlying ht, sizeOf, typeInfo, hi, Builtin.lenOf, Builtin.firstCells]
   · injection hv with a1 a2 a3
     subst a1 a3; simp [Builtin.append_, run_underlying ht, sizeOf, typeInfo, hi, Builtin.lenOf, Builtin.firstCells, hnc, storeCells]
  exact ⟨A, c, w, hr0, by simpa using hown, World.grownBy.refl w _, .inl rfl⟩
 | some ad =>
  obtain ⟨v', w', hrun, h2, h3, _, h5⟩ := run_append_own_at (P := P) w B t ty e i z size bytes ht hi hz hsize hby hzs hsz _ n xs hown ad m c2 news hr.1 (hnews ad rfl) h1 h63 hbytes hbase; obtain ⟨A', c', rfl⟩ := own_form h2; exact ⟨A', c', w', hrun, h2, h3, h5⟩

theorem wpList_append_rd {ops : Array Oper} {rest : List Oper} {o : Oper} {a : Act} {Q : Exit -> Act -> World -> Prop} (hgd : o.guard = none) (s x : Operand) (t : TypeId)
    (ho : o.op = .call { callee := .builtin .append, args := #[s, x], argTypes := #[t, t] })
    (i : TypeInfo) (z : Value) (bytes : Nat) (ht : P.underlying t = some (.slice e)) (hi : P.info? e = some i) (hz : i.zero = some z)
    (hsize : i.size = size) (hby : i.bytes = bytes) (hzs : z.cells.size = size) (hsz : 0 < size)
    (hs : a.eval s = .slice A n c) (hown : w.ownsRow B e size (.slice A n c) n xs) (hx : a.eval x = .slice A2 m c2) (hr : Rd w size A2 m c2 news) (h1 : ∀ u ∈ news, u.oneCell' = true)
    (h63 : n + m <= maxLen) (hbytes : (n + m) * bytes <= 140737488355328) (hbase : B <= w.heap.size)
    (h : ∀ A' c' w', w'.ownsRow B e size (.slice A' (n + m) c') (n + m) (xs ++ news) -> w.grownBy w' (Value.slice A n c).ownBlock -> Below B w w' ->
     wpList P ops Q rest (a.put o.dst (.slice A' (n + m) c')) w') : wpList P ops Q (o :: rest) a w := by
 obtain ⟨A', c', w', hrun, h2, h3, h4⟩ := run_append_rd (P := P) t o.type i z bytes ht hi hz hsize hby hzs hsz hown hr h1 h63 hbytes hbase; exact Lib.wpList_append_run w hgd s x t t ho _ _ hs hx _ _ hrun (h A' c' w' h2 h3 ((Below.refl B w).grown h3 hbase (fun k hk => (hown.lt k hk).1)))
end
theorem oneCell_bytes (l : List UInt8) : ∀ u ∈ l.map byteV, u.oneCell' = true := by
 intro u hu; obtain ⟨x, _, rfl⟩ := List.mem_map.1 hu
 rfl

def Lists (w : World) (A : Option Addr) (n c : Nat) (ls : List (List UInt8)) : Prop :=
 ∃ vs : List Value, Rd w 1 A n c vs ∧ vs.length = ls.length ∧ ∀ (i : Nat) (l : List UInt8), ls[i]? = some l -> ∃ A' n' c', vs[i]? = some (.slice A' n' c') ∧ Bytes w A' n' c' l
def listAt (ls : List (List UInt8)) (i : Nat) : List UInt8 := ls.getD i []
section
variable {w w' : World} {A : Option Addr} {n c : Nat} {ls : List (List UInt8)}
theorem Lists.stays (h : Lists w A n c ls) (hb : Below w.heap.size w w') : Lists w' A n c ls := by
 obtain ⟨vs, h1, h2, h3⟩ := h; refine ⟨vs, h1.stays hb, h2, fun i l hl => ?_⟩; obtain ⟨A', n', c', e, hy⟩ := h3 i l hl; exact ⟨A', n', c', e, hy.stays hb⟩
instance : QStay (Lists w A n c ls) w w' (Lists w' A n c ls) := ⟨fun h hb => Lists.stays h hb⟩
theorem Lists.len (h : Lists w A n c ls) : ls.length = n := by
 obtain ⟨vs, h1, h2, _⟩ := h; have := h1.1; omega
theorem Lists.le (h : Lists w A n c ls) : n <= c := by obtain ⟨vs, h1, _⟩ := h; exact h1.2.1
theorem Lists.cap (h : Lists w A n c ls) : c <= 9223372036854775807 := by
 obtain ⟨vs, h1, _⟩ := h; have := h1.2.2.1; unfold maxLen at this; omega
theorem Lists.at_ (h : Lists w A n c ls) {i : Nat} (hi : i < n) : ∃ b off A' n' c', A = some ⟨b, off, none⟩ ∧ w.cell? ⟨b, off + i, none⟩ = some (.slice A' n' c') ∧ Bytes w A' n' c' (listAt ls i) := by
 have hl := h.len; obtain ⟨vs, h1, h2, h3⟩ := h; have hli : i < ls.length := by omega
 obtain ⟨A', n', c', e, hy⟩ := h3 i (listAt ls i) (by simp [listAt, hli, List.getD]); obtain ⟨b, off, ha, hc⟩ := h1.2.2.2 i _ e; exact ⟨b, off, A', n', c', ha, hc, hy⟩
end
theorem lists_made {w : World} {E : TypeId} {vs : List Value} {ls : List (List UInt8)} (hl : vs.length = ls.length) (hm : vs.length <= maxLen)
    (h : ∀ (i : Nat) (l : List UInt8), ls[i]? = some l -> ∃ A' n' c', vs[i]? = some (.slice A' n' c') ∧ Bytes w A' n' c' l) :
    Lists (w.alloc (.cells vs.toArray E)) (some ⟨w.heap.size, 0, none⟩) vs.length vs.length ls := by
 refine ⟨vs, ⟨by simp, Nat.le_refl _, hm, fun i u hu => ⟨_, _, rfl, ?_⟩⟩, hl, fun i l hi => ?_⟩
 · rw [World.cell?_alloc_at _ _ _ _ rfl, Nat.zero_add]; simpa using hu
 · obtain ⟨A', n', c', e, hy⟩ := h i l hi; exact ⟨A', n', c', e, hy.stays ((Below.refl _ _).alloc (Nat.le_refl _) _)⟩
theorem lists_made1 {w : World} {E : TypeId} {A1 : Option Addr} {n1 c1 : Nat} {l1 : List UInt8} (h1 : Bytes w A1 n1 c1 l1) :
    Lists (w.alloc (.cells #[.slice A1 n1 c1] E)) (some ⟨w.heap.size, 0, none⟩) 1 1 [l1] :=
 lists_made (vs := [.slice A1 n1 c1]) rfl (by simp [maxLen]) fun i l hi => by
  match i, hi with
  | 0, hi => simp at hi; subst hi; exact ⟨_, _, _, rfl, h1⟩
theorem lists_made2 {w : World} {E : TypeId} {A1 : Option Addr} {n1 c1 : Nat} {l1 : List UInt8} (h1 : Bytes w A1 n1 c1 l1) {A2 : Option Addr} {n2 c2 : Nat} {l2 : List UInt8} (h2 : Bytes w A2 n2 c2 l2) :
    Lists (w.alloc (.cells #[.slice A1 n1 c1, .slice A2 n2 c2] E)) (some ⟨w.heap.size, 0, none⟩) 2 2 [l1, l2] :=
 lists_made (vs := [.slice A1 n1 c1, .slice A2 n2 c2]) rfl (by simp [maxLen]) fun i l hi => by
  match i, hi with
  | 0, hi => simp at hi; subst hi; exact ⟨_, _, _, rfl, h1⟩
  | 1, hi => simp at hi; subst hi; exact ⟨_, _, _, rfl, h2⟩
theorem lists_made3 {w : World} {E : TypeId} {A1 : Option Addr} {n1 c1 : Nat} {l1 : List UInt8} (h1 : Bytes w A1 n1 c1 l1) {A2 : Option Addr} {n2 c2 : Nat} {l2 : List UInt8} (h2 : Bytes w A2 n2 c2 l2) {A3 : Option Addr} {n3 c3 : Nat} {l3 : List UInt8} (h3 : Bytes w A3 n3 c3 l3) :
    Lists (w.alloc (.cells #[.slice A1 n1 c1, .slice A2 n2 c2, .slice A3 n3 c3] E)) (some ⟨w.heap.size, 0, none⟩) 3 3 [l1, l2, l3] :=
 lists_made (vs := [.slice A1 n1 c1, .slice A2 n2 c2, .slice A3 n3 c3]) rfl (by simp [maxLen]) fun i l hi => by
  match i, hi with
  | 0, hi => simp at hi; subst hi; exact ⟨_, _, _, rfl, h1⟩
  | 1, hi => simp at hi; subst hi; exact ⟨_, _, _, rfl, h2⟩
  | 2, hi => simp at hi; subst hi; exact ⟨_, _, _, rfl, h3⟩
theorem lists_made4 {w : World} {E : TypeId} {A1 : Option Addr} {n1 c1 : Nat} {l1 : List UInt8} (h1 : Bytes w A1 n1 c1 l1) {A2 : Option Addr} {n2 c2 : Nat} {l2 : List UInt8} (h2 : Bytes w A2 n2 c2 l2) {A3 : Option Addr} {n3 c3 : Nat} {l3 : List UInt8} (h3 : Bytes w A3 n3 c3 l3) {A4 : Option Addr} {n4 c4 : Nat} {l4 : List UInt8} (h4 : Bytes w A4 n4 c4 l4) :
    Lists (w.alloc (.cells #[.slice A1 n1 c1, .slice A2 n2 c2, .slice A3 n3 c3, .slice A4 n4 c4] E)) (some ⟨w.heap.size, 0, none⟩) 4 4 [l1, l2, l3, l4] :=
 lists_made (vs := [.slice A1 n1 c1, .slice A2 n2 c2, .slice A3 n3 c3, .slice A4 n4 c4]) rfl (by simp [maxLen]) fun i l hi => by
  match i, hi with
  | 0, hi => simp at hi; subst hi; exact ⟨_, _, _, rfl, h1⟩
  | 1, hi => simp at hi; subst hi; exact ⟨_, _, _, rfl, h2⟩
  | 2, hi => simp at hi; subst hi; exact ⟨_, _, _, rfl, h3⟩
  | 3, hi => simp at hi; subst hi; exact ⟨_, _, _, rfl, h4⟩
theorem take_flatten (ls : List (List UInt8)) (i : Nat) (h : i < ls.length) : (ls.take (i + 1)).flatten = (ls.take i).flatten ++ listAt ls i := by
 have e : listAt ls i = ls[i] := by simp [listAt, h, List.getD]
 rw [List.take_succ_eq_append_getElem h, e, List.flatten_append, List.flatten_cons, List.flatten_nil, List.append_nil]
theorem flatten_take_le (ls : List (List UInt8)) (i : Nat) : (ls.take i).flatten.length <= ls.flatten.length := by
 conv => rhs; rw [<- List.take_append_drop i ls, List.flatten_append, List.length_append]
 omega
theorem own_alloc {w : World} {B e size n : Nat} {v : Value} {xs : List Value} (h : w.ownsRow B e size v n xs) (o : Obj) : (w.alloc o).ownsRow B e size v n xs := h.alloc o
theorem own_more {w : World} {B B' e size n : Nat} {v : Value} {xs : List Value} (h : w.ownsRow B e size v n xs) (hB : B' <= B) : w.ownsRow B' e size v n xs := by
 obtain ⟨h1, h2⟩ := h; refine ⟨h1, ?_⟩; rcases h2 with h2 | ⟨g, cap, cur, e1, hg, r⟩
 · exact .inl h2
 · exact .inr ⟨g, cap, cur, e1, by omega, r⟩
theorem rd_one (w : World) (v : Value) (e : TypeId) : Rd (w.alloc (.cells #[v] e)) 1 (some ⟨w.heap.size, 0, none⟩) 1 1 [v] := by
 refine ⟨rfl, Nat.le_refl _, by decide, fun i u hu => ⟨w.heap.size, 0, rfl, ?_⟩⟩
 match i, hu with
 | 0, hu => simp at hu; subst hu; rw [cell_of_row _ _ _ _ _ (0, 0) (heap_alloc_new _ _)]; rfl
 | i + 1, hu => simp at hu
theorem infoByteA : (Tryz.prog.info? 5).map (fun i => (i.zero, i.size, i.bytes)) = some (some (.int .u8 0), 1, 1) := by kernel_rfl
def FldL (w : World) (A : Option Addr) (n c : Nat) (fs : List (Int × List UInt8)) : Prop :=
 ∃ vs : List Value, Rd w 2 A n c vs ∧ fs.length = n ∧ ∀ (i : Nat) (f : Int × List UInt8), fs[i]? = some f -> ∃ A' n' c', vs[i * 2]? = some (.int .i64 f.1) ∧ vs[i * 2 + 1]? = some (.slice A' n' c') ∧ Bytes w A' n' c' f.2
def fldT (fs : List (Int × List UInt8)) (i : Nat) : Int := (fs.getD i (0, [])).1
def fldD (fs : List (Int × List UInt8)) (i : Nat) : List UInt8 := (fs.getD i (0, [])).2
section
variable {w w' : World} {A : Option Addr} {n c : Nat} {fs : List (Int × List UInt8)}
theorem FldL.stays (h : FldL w A n c fs) (hb : Below w.heap.size w w') : FldL w' A n c fs := by
 obtain ⟨vs, h1, h2, h3⟩ := h; refine ⟨vs, h1.stays hb, h2, fun i f hf => ?_⟩; obtain ⟨A', n', c', e1, e2, hy⟩ := h3 i f hf; exact ⟨A', n', c', e1, e2, hy.stays hb⟩
instance : QStay (FldL w A n c fs) w w' (FldL w' A n c fs) := ⟨fun h hb => FldL.stays h hb⟩
theorem FldL.len (h : FldL w A n c fs) : fs.length = n := by obtain ⟨vs, _, h2, _⟩ := h; exact h2
theorem FldL.le (h : FldL w A n c fs) : n <= c := by obtain ⟨vs, h1, _⟩ := h; exact h1.2.1
theorem FldL.cap (h : FldL w A n c fs) : c <= 9223372036854775807 := by
 obtain ⟨vs, h1, _⟩ := h; have := h1.2.2.1; unfold maxLen at this; omega
theorem FldL.at_ (h : FldL w A n c fs) {i : Nat} (hi : i < n) : ∃ b off A' n' c', A = some ⟨b, off, none⟩ ∧ w.cell? ⟨b, off + i * 2, none⟩ = some (.int .i64 (fldT fs i)) ∧
    w.cell? ⟨b, off + i * 2 + 1, none⟩ = some (.slice A' n' c') ∧ Bytes w A' n' c' (fldD fs i) := by
 have hl := h.len; obtain ⟨vs, h1, h2, h3⟩ := h; have hli : i < fs.length := by omega
 obtain ⟨A', n', c', e1, e2, hy⟩ := h3 i (fs.getD i (0, [])) (by simp [hli, List.getD]); obtain ⟨b, off, ha, hc⟩ := h1.2.2.2 _ _ e1; obtain ⟨b', off', ha', hc'⟩ := h1.2.2.2 _ _ e2; rw [ha] at ha'; simp only [Option.some.injEq, Addr.mk.injEq, and_true] at ha'; obtain ⟨rfl, rfl⟩ := ha'; exact ⟨b, off, A', n', c', ha, hc, by rw [Nat.add_assoc]; exact hc', hy⟩
end
theorem Bytes.lt {w : World} {A : Option Addr} {n c : Nat} {l : List UInt8} (h : Bytes w A n c l) (hn : 0 < n) : ∀ a, A = some a -> a.block < w.heap.size := by
 intro a ha; obtain ⟨b, off, e, hc⟩ := h.at_ hn; rw [ha] at e; injection e with e
 subst e; exact World.block_lt_of_cell? w _ hc
def Fresh (B : Nat) (A : Option Addr) : Prop := ∀ a, A = some a -> B <= a.block
theorem Fresh.more {B B' : Nat} {A : Option Addr} (h : Fresh B A) (hB : B' <= B) : Fresh B' A := fun a ha => Nat.le_trans hB (h a ha)
theorem Fresh.own {w : World} {B e size n c : Nat} {A : Option Addr} {xs : List Value} (h : w.ownsRow B e size (.slice A n c) n xs) : Fresh B A := by
 intro a ha; rcases h.2 with ⟨hv, _⟩ | ⟨g, cap, cur, hv, hB, _⟩
 · injection hv with h1 _ _; rw [ha] at h1; cases h1
 · injection hv with h1 _ _
   rw [ha] at h1; injection h1 with h1; subst h1; exact hB
def Off (A : Option Addr) (n : Nat) (bad : Option Nat) : Prop := ∀ a, A = some a -> 0 < n -> bad ≠ some a.block
theorem Off.fresh {B : Nat} {A : Option Addr} {n : Nat} {bad : Option Nat} (h : Fresh B A) (hb : ∀ k, bad = some k -> k < B) : Off A n bad := fun a ha _ e => by
 have := h a ha; have := hb _ e; omega
theorem Bytes.kept {w w' : World} {A : Option Addr} {n c : Nat} {l : List UInt8} {bad : Option Nat} (h : Bytes w A n c l) (hg : w.grownBy w' bad) (ho : Off A n bad) : Bytes w' A n c l := by
 refine ⟨h.1, h.2.1, h.2.2.1, fun i u hu => ?_⟩; obtain ⟨b, off, e, hc⟩ := h.2.2.2 i u hu; have hi : i < (l.map byteV).length := by
  rcases Nat.lt_or_ge i (l.map byteV).length with h | h
  · exact h
  · rw [List.getElem?_eq_none h] at hu; cases hu
 have hn : 0 < n := by have := h.len; simp at hi; omega
 have hlt : b < w.heap.size := World.block_lt_of_cell? w _ hc; have hbl := hg.block b hlt (fun e' => ho _ e hn e'.symm); exact ⟨b, off, e, (World.cell?_of_block (a := ⟨b, off + i, none⟩) hbl).trans hc⟩

section
variable {α : Type} {sz : Nat} {enc : α -> Option Addr -> Nat -> Nat -> List Value} {dat : α -> List UInt8}
def ItemsV (sz : Nat) (enc : α -> Option Addr -> Nat -> Nat -> List Value) (dat : α -> List UInt8) (w : World) (bad : Option Nat) (vs : List Value) (xs : List α) : Prop :=
 vs.length = xs.length * sz ∧ ∀ (i : Nat) (x : α), xs[i]? = some x -> ∃ A n c, (∀ k, k < sz -> vs[i * sz + k]? = (enc x A n c)[k]?) ∧ Bytes w A n c (dat x) ∧ Off A n bad
theorem ItemsV.nil (w : World) (bad : Option Nat) : ItemsV sz enc dat w bad [] [] := ⟨by simp, fun i x h => by simp at h⟩
theorem ItemsV.stays {w w' : World} {bad : Option Nat} {vs : List Value} {xs : List α} (h : ItemsV sz enc dat w bad vs xs) (hb : Below w.heap.size w w') : ItemsV sz enc dat w' bad vs xs :=
 ⟨h.1, fun i x hx => by obtain ⟨A, n, c, h1, h2, h3⟩ := h.2 i x hx; exact ⟨A, n, c, h1, h2.stays hb, h3⟩⟩
instance {w w' : World} {bad : Option Nat} {vs : List Value} {xs : List α} : QStay (ItemsV sz enc dat w bad vs xs) w w' (ItemsV sz enc dat w' bad vs xs) := ⟨fun h hb => ItemsV.stays h hb⟩
theorem ItemsV.grew {w w' : World} {bad bad' : Option Nat} {vs : List Value} {xs : List α} (h : ItemsV sz enc dat w bad vs xs) (hg : w.grownBy w' bad) (hb : bad' = bad ∨ bad' = some w.heap.size) : ItemsV sz enc dat w' bad' vs xs :=
 ⟨h.1, fun i x hx => by
  obtain ⟨A, n, c, h1, h2, h3⟩ := h.2 i x hx; refine ⟨A, n, c, h1, h2.kept hg h3, fun a ha hn => ?_⟩; rcases hb with rfl | rfl
  · exact h3 a ha hn
  · intro e; injection e with e
    have := h2.lt hn a ha
    omega⟩
theorem ItemsV.snoc {w : World} {bad : Option Nat} {vs : List Value} {xs : List α} (h : ItemsV sz enc dat w bad vs xs) (x : α) (A : Option Addr) (n c : Nat) (hl : (enc x A n c).length = sz) (hb : Bytes w A n c (dat x)) (ho : Off A n bad) :
    ItemsV sz enc dat w bad (vs ++ enc x A n c) (xs ++ [x]) := by
 refine ⟨by rw [List.length_append, h.1, hl, List.length_append, List.length_singleton, Nat.add_mul, Nat.one_mul], fun i y hy => ?_⟩
 by_cases hi : i < xs.length
 · rw [List.getElem?_append_left hi] at hy; obtain ⟨A', n', c', h1, h2, h3⟩ := h.2 i y hy; refine ⟨A', n', c', fun k hk => ?_, h2, h3⟩; have : i * sz + k < vs.length := by
    have e1 : (i + 1) * sz <= xs.length * sz := Nat.mul_le_mul_right _ hi; rw [Nat.add_mul, Nat.one_mul] at e1; rw [h.1]; omega
   rw [List.getElem?_append_left this]; exact h1 k hk
 · rw [List.getElem?_append_right (by omega)] at hy; have hi0 : i = xs.length := by
    rcases Nat.lt_or_ge (i - xs.length) 1 with h | h
    · omega
    · rw [List.getElem?_eq_none (by simpa using h)] at hy; cases hy
   subst hi0; simp at hy; subst hy; refine ⟨A, n, c, fun k hk => ?_, hb, ho⟩; rw [<- h.1, List.getElem?_append_right (by omega), Nat.add_sub_cancel_left]
def OwnItems (sz : Nat) (enc : α -> Option Addr -> Nat -> Nat -> List Value) (dat : α -> List UInt8) (e : TypeId) (w : World) (B : Nat) (A : Option Addr) (n c : Nat) (xs : List α) : Prop :=
 ∃ vs, w.ownsRow B e sz (.slice A n c) n vs ∧ ItemsV sz enc dat w (Value.slice A n c).ownBlock vs xs
variable {e : TypeId} {w w' : World} {B n c : Nat} {A : Option Addr} {xs : List α}
theorem OwnItems.stays (h : OwnItems sz enc dat e w B A n c xs) (hb : Below w.heap.size w w') : OwnItems sz enc dat e w' B A n c xs := by
 obtain ⟨vs, h1, h2⟩ := h; exact ⟨vs, own_below h1 hb, h2.stays hb⟩
instance : QStay (OwnItems sz enc dat e w B A n c xs) w w' (OwnItems sz enc dat e w' B A n c xs) := ⟨fun h hb => OwnItems.stays h hb⟩
theorem OwnItems.more {B' : Nat} (h : OwnItems sz enc dat e w B A n c xs) (hB : B' <= B) : OwnItems sz enc dat e w B' A n c xs := by
 obtain ⟨vs, h1, h2⟩ := h; exact ⟨vs, own_more h1 hB, h2⟩
theorem OwnItems.nil (w : World) (B : Nat) : OwnItems sz enc dat e w B none 0 0 ([] : List α) := ⟨[], own_nil _ _ _ _, ItemsV.nil _ _⟩
theorem OwnItems.lt (h : OwnItems sz enc dat e w B A n c xs) : ∀ k, (Value.slice A n c).ownBlock = some k -> k < w.heap.size := by
 obtain ⟨vs, h1, h2⟩ := h; exact fun k hk => (h1.lt k hk).2
theorem OwnItems.rd (h : OwnItems sz enc dat e w B A n c xs) : ∃ vs, Rd w sz A n c vs ∧ ItemsV sz enc dat w (Value.slice A n c).ownBlock vs xs := by
 obtain ⟨vs, h1, h2⟩ := h; exact ⟨vs, own_rd h1, h2⟩
theorem OwnItems.len (h : OwnItems sz enc dat e w B A n c xs) (hs : 0 < sz) : xs.length = n := by
 obtain ⟨vs, h1, h2⟩ := h.rd; exact Nat.eq_of_mul_eq_mul_right hs (h2.1.symm.trans h1.1)
theorem OwnItems.le (h : OwnItems sz enc dat e w B A n c xs) : n <= c := by obtain ⟨vs, h1, _⟩ := h.rd; exact h1.2.1
theorem OwnItems.cap (h : OwnItems sz enc dat e w B A n c xs) : c <= 9223372036854775807 := by
 obtain ⟨vs, h1, _⟩ := h.rd; have := h1.2.2.1; unfold maxLen at this; omega
theorem run_append_items {P : Program} (t ty : TypeId) (i : TypeInfo) (z : Value) (bytes : Nat) (ht : P.underlying t = some (.slice e)) (hi : P.info? e = some i) (hz : i.zero = some z)
    (hsize : i.size = sz) (hby : i.bytes = bytes) (hzs : z.cells.size = sz) (hsz : 0 < sz)
    (hown : OwnItems sz enc dat e w B A n c xs) (x : α) {A1 A2 : Option Addr} {n1 c1 c2 : Nat} (hl : (enc x A1 n1 c1).length = sz) (hr : Rd w sz A2 1 c2 (enc x A1 n1 c1)) (h1 : ∀ u ∈ enc x A1 n1 c1, u.oneCell' = true)
    (hb : Bytes w A1 n1 c1 (dat x)) (ho : Off A1 n1 (Value.slice A n c).ownBlock)
    (h63 : n + 1 <= maxLen) (hbytes : (n + 1) * bytes <= 140737488355328) (hbase : B <= w.heap.size) :
    ∃ A' c' w', (Builtin.append_ #[t, t] ty #[.slice A n c, .slice A2 1 c2]).run P w = .ok (.slice A' (n + 1) c') w' ∧ OwnItems sz enc dat e w' B A' (n + 1) c' (xs ++ [x]) ∧ w.grownBy w' (Value.slice A n c).ownBlock ∧ Below B w w' := by
 obtain ⟨vs, hw, hv⟩ := hown; obtain ⟨A', c', w', hrun, h2, h3, h4⟩ := run_append_rd (P := P) t ty i z bytes ht hi hz hsize hby hzs hsz hw hr h1 h63 hbytes hbase; refine ⟨A', c', w', hrun, ⟨_, h2, (hv.grew h3 h4).snoc x A1 n1 c1 hl (hb.kept h3 ho) ?_⟩, h3, (Below.refl B w).grown h3 hbase (fun k hk => (hw.lt k hk).1)⟩; intro a ha hn; rcases h4 with h4 | h4
 · rw [h4]; exact ho a ha hn
 · rw [h4]; intro e'; injection e' with e'
   have := hb.lt hn a ha; omega
theorem wpList_append_items {P : Program} {ops : Array Oper} {rest : List Oper} {o : Oper} {a : Act} {Q : Exit -> Act -> World -> Prop} (hgd : o.guard = none) (s y : Operand) (t : TypeId)
    (hop : o.op = .call { callee := .builtin .append, args := #[s, y], argTypes := #[t, t] })
    (i : TypeInfo) (z : Value) (bytes : Nat) (ht : P.underlying t = some (.slice e)) (hi : P.info? e = some i) (hz : i.zero = some z)
    (hsize : i.size = sz) (hby : i.bytes = bytes) (hzs : z.cells.size = sz) (hsz : 0 < sz)
    (hs : a.eval s = .slice A n c) (hown : OwnItems sz enc dat e w B A n c xs) {A1 A2 : Option Addr} {n1 c1 c2 : Nat} (hy : a.eval y = .slice A2 1 c2) (x : α) (hl : (enc x A1 n1 c1).length = sz) (hr : Rd w sz A2 1 c2 (enc x A1 n1 c1)) (h1 : ∀ u ∈ enc x A1 n1 c1, u.oneCell' = true)
    (hb : Bytes w A1 n1 c1 (dat x)) (ho : Off A1 n1 (Value.slice A n c).ownBlock)
    (h63 : n + 1 <= maxLen) (hbytes : (n + 1) * bytes <= 140737488355328) (hbase : B <= w.heap.size)
    (h : ∀ A' c' w', OwnItems sz enc dat e w' B A' (n + 1) c' (xs ++ [x]) -> w.grownBy w' (Value.slice A n c).ownBlock -> Below B w w' ->
     wpList P ops Q rest (a.put o.dst (.slice A' (n + 1) c')) w') : wpList P ops Q (o :: rest) a w := by
 obtain ⟨A', c', w', hrun, h2, h3, h4⟩ := run_append_items (P := P) t o.type i z bytes ht hi hz hsize hby hzs hsz hown x hl hr h1 hb ho h63 hbytes hbase; exact Lib.wpList_append_run w hgd s y t t hop _ _ hs hy _ _ hrun (h A' c' w' h2 h3 h4)
theorem step_append_items {P : Program} {ops : Array Oper} {o : Oper} {a : Act} {K : Act -> World -> Prop} {Q : Exit -> Act -> World -> Prop} {E : Prop} (hgd : o.guard = none) (s y : Operand) (t : TypeId)
    (hop : o.op = .call { callee := .builtin .append, args := #[s, y], argTypes := #[t, t] })
    (i : TypeInfo) (z : Value) (bytes : Nat) (ht : P.underlying t = some (.slice e)) (hi : P.info? e = some i) (hz : i.zero = some z)
    (hsize : i.size = sz) (hby : i.bytes = bytes) (hzs : z.cells.size = sz) (hsz : 0 < sz)
    (hs : a.eval s = .slice A n c) (hown : OwnItems sz enc dat e w B A n c xs) {A1 A2 : Option Addr} {n1 c1 c2 : Nat} (hy : a.eval y = .slice A2 1 c2) (x : α) (hl : (enc x A1 n1 c1).length = sz) (hr : Rd w sz A2 1 c2 (enc x A1 n1 c1)) (h1 : ∀ u ∈ enc x A1 n1 c1, u.oneCell' = true)
    (hb : Bytes w A1 n1 c1 (dat x)) (ho : Off A1 n1 (Value.slice A n c).ownBlock)
    (h63 : n + 1 <= maxLen) (hbytes : (n + 1) * bytes <= 140737488355328) (hbase : B <= w.heap.size)
    (h : ∀ A' c' w', OwnItems sz enc dat e w' B A' (n + 1) c' (xs ++ [x]) -> w.grownBy w' (Value.slice A n c).ownBlock -> Below B w w' -> K (a.put o.dst (.slice A' (n + 1) c')) w') :
    if Region.wanted o (yielded ops a.tmps) = true then Oper.wp P o a w K Q else E := by
 have hw : Region.wanted o (yielded ops a.tmps) = true := by simp [Region.wanted, hgd]
 rw [if_pos hw]; obtain ⟨A', c', w', hrun, h2, h3, h4⟩ := run_append_items (P := P) t o.type i z bytes ht hi hz hsize hby hzs hsz hown x hl hr h1 hb ho h63 hbytes hbase; unfold Oper.wp; simp [execOp, hop, resolve, invoke, builtin, hs, hy, hrun, Result.andThen]; exact h A' c' w' h2 h3 h4
end
section
variable {P : Program} {w : World} {B e size n c m c2 : Nat} {A A2 : Option Addr} {xs news : List Value}
end
def encB (_ : List UInt8) (A : Option Addr) (n c : Nat) : List Value := [.slice A n c]
theorem OwnItems.lists {e : TypeId} {w : World} {B n c : Nat} {A : Option Addr} {ls : List (List UInt8)} (h : OwnItems 1 encB id e w B A n c ls) : Lists w A n c ls := by
 obtain ⟨vs, h1, h2⟩ := h.rd; refine ⟨vs, h1, by have := h2.1; omega, fun i l hl => ?_⟩; obtain ⟨A', n', c', e1, e2, _⟩ := h2.2 i l hl; exact ⟨A', n', c', by have := e1 0 (by omega); simpa [encB] using this, e2⟩
theorem clone_any (A : Option Addr) (n c : Nat) (l : List UInt8) (w : World) (hv : Bytes w A n c l) (hn : n <= 1099511627776) :
    Calls Tryz.prog 86 #[.slice A n c] w fun e w' => ∃ A' c', e = .returned (.slice A' n c') ∧ w'.ownsRow w.heap.size 5 1 (.slice A' n c') n (l.map byteV) ∧ Below w.heap.size w w' := by
 obtain ⟨i0, hi, hz0, hz1, hz2⟩ := info_parts infoByteA; have hcap := hv.cap; have hle := hv.le
 cases A with
 | none =>
  have h0 : n = 0 := by
   rcases Nat.eq_zero_or_pos n with h | h
   · exact h
   · obtain ⟨b, off, e, _⟩ := hv.at_ h
     cases e
  subst h0; have hl : l = [] := List.eq_nil_of_length_eq_zero hv.len; subst hl; have hq := fun (W : World) => Lib.run_eql_slice_nil (P := Tryz.prog) W 27 5 none 0 c 0 0 Tryz.underlying27
  go_enter Tryz.func86, Tryz.ntmps86
  go_wp2; go_ret; exact ⟨none, 0, rfl, own_nil _ _ _ _, Below.refl _ _⟩
 | some ad =>
  have HV := qq hv; clear hv; have hq := fun (W : World) => Lib.run_eql_slice_nil (P := Tryz.prog) W 27 5 (some ad) n c 0 0 Tryz.underlying27
  go_enter Tryz.func86, Tryz.ntmps86
  go_wp2_with (at_builtin; refine wpList_append_rd rfl _ _ 27 rfl i0 (.int .u8 0) 1 Tryz.underlying27 hi hz0 hz1 hz2 rfl (by decide) rfl (World.ownsRow_lit w #[] 0 (Nat.le_refl _) (by decide) rfl) rfl (HV.out.stays (by go_grown)) (oneCell_bytes _) ?c1 ?c2 ?c3 ?_)
  case c1 => unfold maxLen; omega
  case c2 => omega
  case c3 => simp
  intro A8 c8 w8 hown8 hg8 hb8; have H8 := qq hown8; have hb9 : Below w.heap.size w w8 := ((Below.refl _ _).alloc (Nat.le_refl _) _).trans hb8; clear hown8; go_wp2; go_ret; exact ⟨A8, c8, rfl, H8.out, hb9⟩

end Go.Proofs.YtiemnacoebkalaaGreat
namespace Go.Proofs.YtiemnacoebkalaaGreat
open Go Go.RowKit
def idxI {α : Type} (p : α -> Bool) (ls : List α) : Int := if ls.any p then (ls.findIdx p : Int) else -1
theorem listAt_get {ls : List (List UInt8)} {i : Nat} (h : i < ls.length) : listAt ls i = ls[i] := by
 unfold listAt; simp [List.getD, h]
theorem idxI_hit {p : List UInt8 -> Bool} {ls : List (List UInt8)} {j : Nat} (hj : j < ls.length) (h : p (listAt ls j) = true) (hb : ∀ i, i < j -> p (listAt ls i) = false) : idxI p ls = j ∧ ls.any p = true := by
 have e : ls.any p = true := List.any_eq_true.2 ⟨ls[j], List.getElem_mem _, by rw [<- listAt_get hj]; exact h⟩; refine ⟨?_, e⟩; unfold idxI; rw [if_pos e, (List.findIdx_eq hj).2 ⟨by rw [<- listAt_get hj]; exact h, fun i hi => by have := hb i hi; rw [listAt_get (by omega)] at this; exact this⟩]
theorem idxI_miss {p : List UInt8 -> Bool} {ls : List (List UInt8)} {n : Nat} (hn : ls.length = n) (hb : ∀ i, i < n -> p (listAt ls i) = false) : idxI p ls = -1 ∧ ls.any p = false := by
 have e : ls.any p = false := by
  rw [List.any_eq_false]; intro x hx; obtain ⟨i, hi, rfl⟩ := List.mem_iff_getElem.1 hx; rw [<- listAt_get hi, hb i (by omega)]; decide
 refine ⟨?_, e⟩; unfold idxI; rw [if_neg (by rw [e]; decide)]
theorem idxL_check1  (p : List UInt8 -> Bool) (A : Option Addr) (n c : Nat) (ls : List (List UInt8)) (w : World) (hv : Lists w A n c ls)
    (hp : ∀ W A n c l, Below w.heap.size w W -> Bytes W A n c l -> Calls Tryz.prog 136 #[.slice A n c] W fun e w' => e = .returned (.bool (p l)) ∧ Below W.heap.size W w') :
    Calls Tryz.prog 83 #[.slice A n c, .func (.func 136) #[] #[]] w fun e w' => e = .returned (.int .i64 (idxI p ls)) ∧ Below w.heap.size w w' := by
 have HV := qq hv; have HL := qq hv.len; have HP := qq hp; have cle := hv.le; have ccap := hv.cap; clear hv hp
 go_enter Tryz.func83, Tryz.ntmps83
 go_wp2
 go_loopw [8] (fun s wr => ∃ (j : Nat), s = .int .i64 j ∧ Hid (j <= n) ∧ Hid (∀ i, i < j -> p (listAt ls i) = false) ∧ Below w.heap.size w wr) (fun s _ => match s with | .int _ j => (n - j).toNat | _ => 0)
 case atStart => exact ⟨0, rfl, Nat.zero_le _, fun i hi => by omega, Below.refl _ _⟩
 case round =>
  obtain ⟨j, rfl, HJ, HF, hb⟩ := hrel; have RW := qq hb; clear hb
  by_cases hj : j < n
  · have hjI : (j : Int) < (n : Int) := by omega
    obtain ⟨b, off, A2, n2, c2, eA, hc0, hb2⟩ := HV.out.at_ hj; subst eA; have hc2 := cell_stays RW.out hc0; have HB2 := qq hb2; clear hb2 hc0; obtain ⟨t, ht⟩ : ∃ t, listAt ls j = t := ⟨_, rfl⟩; have HT := qq ht; rw [ht] at HB2; clear ht
    go_wp2_with fail
    refine (HP.out _ A2 n2 c2 t RW.out (HB2.out.stays RW.out)).mono ?_; rintro e y ⟨rfl, hb5⟩; have R5 := qt RW hb5; clear hb5
    cases hpt : p t with
    | true =>
     have h := idxI_hit (p := p) (by rw [HL.out]; exact hj) (by rw [HT.out]; exact hpt) HF.out; have HR := qq h.1; clear h hpt; go_wp2; go_ret; exact ⟨by rw [HR.out]; rfl, R5.out⟩
    | false =>
     have HF2 : Hid (∀ i, i < j + 1 -> p (listAt ls i) = false) := fun i hi => by
      by_cases e : i = j
      · subst e; rw [HT.out]; exact hpt
      · exact HF.out i (by omega)
     clear hpt; go_wp2
     go_roundw
     case rel => exact ⟨j + 1, by simp, qq (by omega), HF2, R5.out⟩
     case measure => simp; omega
  · have ej : j = n := Nat.le_antisymm (show j <= n from HJ.out) (Nat.le_of_not_lt hj); subst ej; have h := idxI_miss HL.out HF.out; have HR := qq h.1; clear h; go_wp2; go_ret; exact ⟨by rw [HR.out]; rfl, RW.out⟩
theorem hasL_check1  (p : List UInt8 -> Bool) (A : Option Addr) (n c : Nat) (ls : List (List UInt8)) (w : World) (hv : Lists w A n c ls)
    (hp : ∀ W A n c l, Below w.heap.size w W -> Bytes W A n c l -> Calls Tryz.prog 136 #[.slice A n c] W fun e w' => e = .returned (.bool (p l)) ∧ Below W.heap.size W w') :
    Calls Tryz.prog 31 #[.slice A n c, .func (.func 136) #[] #[]] w fun e w' => e = .returned (.bool (ls.any p)) ∧ Below w.heap.size w w' := by
 have HC := qq (idxL_check1 p A n c ls w hv hp); clear hv hp
 go_enter Tryz.func31, Tryz.ntmps31
 go_wp2_with fail
 refine HC.out.mono ?_; rintro e y ⟨rfl, hb⟩; unfold idxI
 cases ha : ls.any p with
 | true =>
  simp only [if_true]; obtain ⟨k, hk⟩ : ∃ k, ls.findIdx p = k := ⟨_, rfl⟩; rw [hk]; have hk0 : (0 : Int) <= (k : Int) := by omega
  clear hk; go_wp2; go_ret; exact ⟨by rw [ha]; rfl, hb⟩
 | false =>
  go_wp2; go_ret; exact ⟨by rw [ha]; rfl, hb⟩
theorem check1_any (A : Option Addr) (n c : Nat) (l : List UInt8) (w : World) (hv : Bytes w A n c l) : Calls Tryz.prog 136 #[.slice A n c] w fun e w' => e = .returned (.bool (decide (65519 < l.length))) ∧ Below w.heap.size w w' := by
 have hl := hv.len; rw [hl]
 by_cases h : 65519 < n
 · have h1 : (65519 : Int) < (n : Int) := by omega
   have HD : Hid (decide (65519 < n) = true) := decide_eq_true h; clear h hl hv
   go_enter Tryz.func136, Tryz.ntmps136
   go_wp2; go_ret; exact ⟨by rw [HD.out]; rfl, Below.refl _ _⟩
 · have h1 : ¬ (65519 : Int) < (n : Int) := by omega
   have HD : Hid (decide (65519 < n) = false) := decide_eq_false h; clear h hl hv
   go_enter Tryz.func136, Tryz.ntmps136
   go_wp2; go_ret; exact ⟨by rw [HD.out]; rfl, Below.refl _ _⟩
theorem check_any (Ak : Option Addr) (ck : Nat) (A : Option Addr) (n c : Nat) (ls : List (List UInt8)) (w : World) (hv : Lists w A n c ls) (hn : n <= 16) (hb : ∀ i, (listAt ls i).length <= 65519) :
    Calls Tryz.prog 108 #[.slice Ak 32 ck, .slice A n c] w fun e w' => e = .returned (.int .i64 0) ∧ Below w.heap.size w w' := by
 have HC := qq (hasL_check1 (fun l => decide (65519 < l.length)) A n c ls w hv (fun W A n c l _ h => check1_any A n c l W h)); have HN : Hid (ls.any (fun l => decide (65519 < l.length)) = false) := by
  unfold Hid; rw [List.any_eq_false]; intro x hx; obtain ⟨i, hi, rfl⟩ := List.mem_iff_getElem.1 hx; have := hb i; rw [listAt_get hi] at this
  simp; omega
 have h1 : ¬ (16 : Int) < (n : Int) := by omega
 clear hb hv hn
 go_enter Tryz.func108, Tryz.ntmps108
 go_wp2_with fail
 refine HC.out.mono ?_; rintro e y ⟨rfl, hb⟩; rw [HN.out]; go_wp2; go_ret; exact ⟨rfl, hb⟩
def VL (w : World) (vs : List Value) (ls : List (List UInt8)) : Prop := vs.length = ls.length ∧ ∀ (i : Nat) (l : List UInt8), ls[i]? = some l -> ∃ A n c, vs[i]? = some (.slice A n c) ∧ Bytes w A n c l
theorem VL.stays {w w' : World} {vs : List Value} {ls : List (List UInt8)} (h : VL w vs ls) (hb : Below w.heap.size w w') : VL w' vs ls :=
 ⟨h.1, fun i l hl => by obtain ⟨A, n, c, e, hy⟩ := h.2 i l hl; exact ⟨A, n, c, e, hy.stays hb⟩⟩
instance {w w' : World} {vs : List Value} {ls : List (List UInt8)} : QStay (VL w vs ls) w w' (VL w' vs ls) := ⟨fun h hb => VL.stays h hb⟩
theorem VL.one {w : World} {A : Option Addr} {n c : Nat} {l : List UInt8} (h : Bytes w A n c l) : VL w [.slice A n c] [l] :=
 ⟨rfl, fun i l' hl => by
  cases i with
  | zero => cases hl; exact ⟨A, n, c, rfl, h⟩
  | succ i => cases hl⟩
theorem VL.append {w : World} {vs us : List Value} {ls ms : List (List UInt8)} (h : VL w vs ls) (h2 : VL w us ms) : VL w (vs ++ us) (ls ++ ms) := by
 refine ⟨by rw [List.length_append, List.length_append, h.1, h2.1], fun i l hl => ?_⟩
 by_cases hi : i < ls.length
 · rw [List.getElem?_append_left hi] at hl; obtain ⟨A, n, c, e, hy⟩ := h.2 i l hl; exact ⟨A, n, c, by rw [List.getElem?_append_left (by rw [h.1]; exact hi)]; exact e, hy⟩
 · rw [List.getElem?_append_right (by omega)] at hl; obtain ⟨A, n, c, e, hy⟩ := h2.2 _ l hl; exact ⟨A, n, c, by rw [List.getElem?_append_right (by rw [h.1]; omega), h.1]; exact e, hy⟩
theorem VL.lists {w : World} {vs : List Value} {ls : List (List UInt8)} {A : Option Addr} {n c : Nat} (h : VL w vs ls) (hr : Rd w 1 A n c vs) : Lists w A n c ls := ⟨vs, hr, h.1, h.2⟩
theorem Lists.vl {w : World} {A : Option Addr} {n c : Nat} {ls : List (List UInt8)} (h : Lists w A n c ls) : ∃ vs, Rd w 1 A n c vs ∧ VL w vs ls := by
 obtain ⟨vs, h1, h2, h3⟩ := h; exact ⟨vs, h1, h2, h3⟩
theorem VL.one' {w : World} {vs : List Value} {ls : List (List UInt8)} (h : VL w vs ls) : ∀ v ∈ vs, v.oneCell' = true := by
 intro v hv; obtain ⟨i, hi, rfl⟩ := List.mem_iff_getElem.1 hv; obtain ⟨A, n, c, e, _⟩ := h.2 i (ls[i]'(by rw [<- h.1]; exact hi)) (List.getElem?_eq_getElem _); rw [List.getElem?_eq_getElem hi] at e; injection e with e
 rw [e]; rfl
theorem infoBytesA : (Tryz.prog.info? 27).map (fun i => (i.zero, i.size, i.bytes)) = some (some (.slice none 0 0), 1, 24) := by kernel_rfl
theorem cloneL_any (A : Option Addr) (n c : Nat) (ls : List (List UInt8)) (w0 w : World) (hn : 0 < n) (hn2 : n <= 1000000) (hv : Lists w0 A n c ls) (hw : Below w0.heap.size w0 w) :
    Calls Tryz.prog 139 #[.slice A n c] w fun e w' => ∃ A' c' vs, e = .returned (.slice A' n c') ∧ w'.ownsRow w.heap.size 27 1 (.slice A' n c') n vs ∧ VL w0 vs ls ∧ Below w.heap.size w w' := by
 obtain ⟨i0, hi, hz0, hz1, hz2⟩ := info_parts infoBytesA; obtain ⟨b, off, A2, n2, c2, rfl, _⟩ := hv.at_ hn; have hcap := hv.cap; have hle := hv.le; obtain ⟨vs, hr, hvl⟩ := hv.vl; have HR := qq (hr.stays hw); have HV := qq hvl; clear hv hr hvl hw; have hq := fun (W : World) => Lib.run_eql_slice_nil (P := Tryz.prog) W 30 27 (some ⟨b, off, none⟩) n c 0 0 Tryz.underlying30
 go_enter Tryz.func139, Tryz.ntmps139
 go_wp2_with (at_builtin; refine wpList_append_rd rfl _ _ 30 rfl i0 (.slice none 0 0) 24 Tryz.underlying30 hi hz0 hz1 hz2 rfl (by decide) rfl (World.ownsRow_lit w #[] 0 (Nat.le_refl _) (by decide) rfl) rfl (HR.out.stays (by go_grown)) HV.out.one' ?c1 ?c2 ?c3 ?_)
 case c1 => unfold maxLen; omega
 case c2 => omega
 case c3 => simp
 intro A8 c8 w8 hown8 hg8 hb8; have H8 := qq hown8; have hb9 : Below w.heap.size w w8 := ((Below.refl _ _).alloc (Nat.le_refl _) _).trans hb8; clear hown8; go_wp2; go_ret; refine ⟨A8, c8, vs, by simp, ?_, HV.out, hb9⟩; have := H8.out
 simpa using this
end Go.Proofs.YtiemnacoebkalaaGreat
namespace Go.Proofs.YtiemnacoebkalaaGreat
open Go.RowKit
theorem grow_nil (k : Nat) (hk : k <= 140737488355328) (w : World) :
    Calls Tryz.prog 141 #[.slice none 0 0, .int .i64 k] w fun e w' => ∃ A c, e = .returned (.slice A 0 c) ∧ w'.ownsRow w.heap.size 5 1 (.slice A 0 c) 0 [] ∧ Below w.heap.size w w' := by
 by_cases h0 : k = 0
 · subst h0
   go_enter Tryz.func141, Tryz.ntmps141
   go_wp2; go_ret; exact ⟨none, 0, rfl, own_nil _ _ _ _, Below.refl _ _⟩
 · obtain ⟨i0, hi, hz0, hz1, hz2⟩ := info_parts infoByteA; have hr := Lib.run_append_nil_zeros (P := Tryz.prog) w 27 3 27 5 i0 (.int .u8 0) .i64 .i64 Tryz.underlying27 Tryz.underlying3 hi hz0 k (by omega) (by omega) (by omega) (by rw [hz2]; omega); have HR := qq hr; have hpos : 0 < k := by omega
   have h0' : (k == 0) = false := by simpa using h0
   clear hr h0
   go_enter Tryz.func141, Tryz.ntmps141
   go_wp2_with (at_builtin; refine Lib.wpList_append_run w rfl _ _ _ _ rfl _ _ rfl rfl _ _ HR.out ?_)
   go_ret; have hge := grownCap_ge w k 0 5; have hle := grownCap_le_maxLen w k 0 5 (by unfold maxLen; omega); refine ⟨_, _, rfl, World.ownsRow_made w.drew _ _ (Nat.le_refl _) hle ?_, ((Below.refl _ _).drew).alloc (Nat.le_refl _) _⟩; simp only [Array.size_append, size_zeroCells, Value.cells]; simp; omega

theorem concat_any (A : Option Addr) (n c : Nat) (ls : List (List UInt8)) (w : World) (hv : Lists w A n c ls) (T : Nat) (hT : ls.flatten.length = T) (ht : T <= 1099511627776) :
    Calls Tryz.prog 115 #[.slice A n c] w fun e w' => ∃ A' c', e = .returned (.slice A' T c') ∧
      w'.ownsRow w.heap.size 5 1 (.slice A' T c') T (ls.flatten.map byteV) ∧ Below w.heap.size w w' := by
 obtain ⟨i0, hi, hz0, hz1, hz2⟩ := info_parts infoByteA; have hcap := hv.cap; have hle := hv.le; have HL := qq hv.len; have HV := qq hv; have HT := qq hT; have hsum : ∀ j, (ls.take j).flatten.length <= T := fun j => by rw [<- hT]; exact flatten_take_le ls j
 have HS := qq hsum; clear hv hsum hT
 go_enter Tryz.func115, Tryz.ntmps115
 go_wp2
 go_loop [3, 11] (fun s i => ∃ j t : Nat, j <= n ∧ i = .int .i64 j ∧ s = .int .i64 t ∧ t <= T ∧ Hid (t = (ls.take j).flatten.length)) (fun _ i => n - (intOf i).toNat)
 case atStart => exact ⟨0, 0, Nat.zero_le _, rfl, rfl, Nat.zero_le _, by simp [Hid]⟩
 case round =>
  obtain ⟨j, t, hj, rfl, rfl, htT, hte⟩ := hrel
  by_cases hjk : j < n
  · obtain ⟨b, off, A', n', c', rfl, hc, hy⟩ := HV.out.at_ hjk; have hn' : t + n' <= T := by
     have := HS.out (j + 1); rw [take_flatten ls j (by rw [HL.out]; exact hjk), List.length_append, hy.len, <- hte.out] at this; exact this
    have HE : Hid (t + n' = (ls.take (j + 1)).flatten.length) := by
     unfold Hid; rw [take_flatten ls j (by rw [HL.out]; exact hjk), List.length_append, hy.len, <- hte.out]
    go_wp2
    go_round
    case rel => exact ⟨j + 1, t + n', by omega, by go_num, by go_num, hn', HE⟩
    case measure => simp [intOf]; omega
  · obtain rfl : j = n := by omega
    have HE : Hid (t = T) := by
     unfold Hid; rw [hte.out, <- HT.out, List.take_of_length_le (by rw [HL.out]; exact Nat.le_refl _)]
    go_wp2_with fail
    refine (grow_nil t (by omega) _).mono ?_; rintro e w1 ⟨A6, c6, rfl, hown, hb1⟩
    go_wp2_with fail
    go_loopw [6, 27] (fun s i wr => ∃ (k m cc : Nat) (AA : Option Addr), k <= j ∧ i = .int .i64 k ∧ s = .slice AA m cc ∧ Hid (m = (ls.take k).flatten.length) ∧
        wr.ownsRow w.heap.size 5 1 (.slice AA m cc) m ((ls.take k).flatten.map byteV) ∧ Below w.heap.size w wr) (fun _ i _ => j - (intOf i).toNat)
    case atStart => exact ⟨0, 0, _, _, Nat.zero_le _, rfl, rfl, by simp [Hid], hown, hb1⟩
    case round =>
     obtain ⟨k, m, cc, AA, hk, rfl, rfl, hm, hownr, hbr⟩ := hrel
     by_cases hkj : k < j
     · obtain ⟨b, off, A', n', c', rfl, hc, hy⟩ := (HV.out.stays hbr).at_ hkj; have HE2 : Hid (m + n' = (ls.take (k + 1)).flatten.length) := by
        unfold Hid; rw [take_flatten ls k (by rw [HL.out]; exact hkj), List.length_append, hy.len, <- hm.out]
       have hmn : m + n' <= T := by rw [HE2.out]; exact HS.out _
       have HO := qq hownr; have HY := qq hy; have hsz := hbr.size; clear hownr hy
       go_wp2_with (at_builtin; refine wpList_append_rd rfl _ _ 27 rfl i0 (.int .u8 0) 1 Tryz.underlying27 hi hz0 hz1 hz2 rfl (by decide) rfl HO.out rfl HY.out (oneCell_bytes _) ?c1 ?c2 ?c3 ?_)
       case c1 => unfold maxLen; omega
       case c2 => omega
       case c3 => exact hsz
       intro A8 c8 w8 hown8 hg8 hb8; have H8 := qq hown8; clear hown8; go_wp2
       go_roundw
       case rel =>
        refine ⟨k + 1, m + n', _, _, by omega, by go_num, rfl, HE2, ?_, hbr.trans hb8⟩; rw [take_flatten ls k (by rw [HL.out]; exact hkj), List.map_append]
        simpa [List.map_flatten, List.map_take] using H8.out
       case measure => simp [intOf]; omega
     · obtain rfl : k = j := by omega
       have HE3 : Hid (m = T) := by
        unfold Hid; rw [hm.out, <- HT.out, List.take_of_length_le (by rw [HL.out]; exact Nat.le_refl _)]
       have HO := qq hownr; clear hownr; go_wp2; go_ret; refine ⟨AA, cc, by rw [<- HE3.out]; rfl, ?_, hbr⟩; have := HO.out; rw [HE3.out, List.take_of_length_le (by rw [HL.out]; exact Nat.le_refl _)] at this; exact this
theorem join_any (A : Option Addr) (n c : Nat) (ls : List (List UInt8)) (w : World) (hv : Lists w A n c ls) (T : Nat) (hT : ls.flatten.length = T) (ht : T <= 1099511627776) :
    Calls Tryz.prog 65 #[.slice A n c] w fun e w' => ∃ A' c', e = .returned (.slice A' T c') ∧
      w'.ownsRow w.heap.size 5 1 (.slice A' T c') T (ls.flatten.map byteV) ∧ Below w.heap.size w w' := by
 have C := qq (concat_any A n c ls w hv T hT ht); clear hv hT ht
 go_enter Tryz.func65, Tryz.ntmps65
 go_wp2_with fail
 refine C.out.mono ?_; rintro e w1 ⟨A', c', rfl, hown, hb⟩; have H := qq hown; clear hown; go_wp2; go_ret; exact ⟨A', c', rfl, H.out, hb⟩

theorem refJoin_any (A : Option Addr) (n c : Nat) (ls : List (List UInt8)) (w : World) (hv : Lists w A n c ls) (T : Nat) (hT : ls.flatten.length = T) (ht : T <= 140737488355328) :
    Calls Tryz.prog 15 #[.slice A n c] w fun e w' => ∃ A' c', e = .returned (.slice A' T c') ∧
      w'.ownsRow w.heap.size 5 1 (.slice A' T c') T (ls.flatten.map byteV) ∧ Below w.heap.size w w' := by
 obtain ⟨i0, hi, hz0, hz1, hz2⟩ := info_parts infoByteA; have hcap := hv.cap; have hle := hv.le; have HL := qq hv.len; have HV := qq hv; have HT := qq hT; have hsum : ∀ j, (ls.take j).flatten.length <= T := fun j => by rw [<- hT]; exact flatten_take_le ls j
 have HS := qq hsum; clear hv hsum hT
 go_enter Tryz.func15, Tryz.ntmps15
 go_wp2
 go_loopw [3, 4] (fun s i wr => ∃ (k m cc : Nat) (AA : Option Addr), k <= n ∧ i = .int .i64 k ∧ s = .slice AA m cc ∧ Hid (m = (ls.take k).flatten.length) ∧
     wr.ownsRow w.heap.size 5 1 (.slice AA m cc) m ((ls.take k).flatten.map byteV) ∧ Below w.heap.size w wr) (fun _ i _ => n - (intOf i).toNat)
 case atStart => exact ⟨0, 0, _, _, Nat.zero_le _, rfl, rfl, by simp [Hid], World.ownsRow_lit w _ _ (Nat.le_refl _) (by decide) rfl, by go_grown⟩
 case round =>
  obtain ⟨k, m, cc, AA, hk, rfl, rfl, hm, hownr, hbr⟩ := hrel
  by_cases hkj : k < n
  · obtain ⟨b, off, A', n', c', rfl, hc, hy⟩ := (HV.out.stays hbr).at_ hkj; have HE2 : Hid (m + n' = (ls.take (k + 1)).flatten.length) := by
     unfold Hid; rw [take_flatten ls k (by rw [HL.out]; exact hkj), List.length_append, hy.len, <- hm.out]
    have hmn : m + n' <= T := by rw [HE2.out]; exact HS.out _
    have HO := qq hownr; have HY := qq hy; have hsz := hbr.size; clear hownr hy
    go_wp2_with (at_builtin; refine wpList_append_rd rfl _ _ 27 rfl i0 (.int .u8 0) 1 Tryz.underlying27 hi hz0 hz1 hz2 rfl (by decide) rfl HO.out rfl HY.out (oneCell_bytes _) ?c1 ?c2 ?c3 ?_)
    case c1 => unfold maxLen; omega
    case c2 => omega
    case c3 => exact hsz
    intro A8 c8 w8 hown8 hg8 hb8; have H8 := qq hown8; clear hown8; go_wp2
    go_roundw
    case rel =>
     refine ⟨k + 1, m + n', _, _, by omega, by go_num, rfl, HE2, ?_, hbr.trans hb8⟩; rw [take_flatten ls k (by rw [HL.out]; exact hkj), List.map_append]
     simpa [List.map_flatten, List.map_take] using H8.out
    case measure => simp [intOf]; omega
  · obtain rfl : k = n := by omega
    have HE3 : Hid (m = T) := by
     unfold Hid; rw [hm.out, <- HT.out, List.take_of_length_le (by rw [HL.out]; exact Nat.le_refl _)]
    have HO := qq hownr; clear hownr; go_wp2; go_ret; refine ⟨AA, cc, by rw [<- HE3.out]; rfl, ?_, hbr⟩; have := HO.out; rw [HE3.out, List.take_of_length_le (by rw [HL.out]; exact Nat.le_refl _)] at this; exact this

end Go.Proofs.YtiemnacoebkalaaGreat
namespace Go.Proofs.YtiemnacoebkalaaGreat
open Go Go.RowKit
def FoundT (p : Int -> Bool) (ks : List (Int × List UInt8)) (r : Int) : Prop :=
 (∃ j : Nat, j < ks.length ∧ p (fldT ks j) = true ∧ (∀ i, i < j -> p (fldT ks i) = false) ∧ r = j) ∨ ((∀ i, i < ks.length -> p (fldT ks i) = false) ∧ r = -1)
theorem idxMaster (x : Value) (p : Int -> Bool) (A : Option Addr) (n c : Nat) (ks : List (Int × List UInt8)) (w : World) (hv : FldL w A n c ks)
    (hp : ∀ W k A n c l, Below w.heap.size w W -> Bytes W A n c l -> (∃ i, i < ks.length ∧ k = fldT ks i) -> Calls Tryz.prog 98 #[.agg #[.int .i64 k, .slice A n c], x] W fun e w' => e = .returned (.bool (p k)) ∧ Below W.heap.size W w') :
    Calls Tryz.prog 97 #[.slice A n c, .func (.func 98) #[] #[x]] w fun e w' => ∃ r : Int, e = .returned (.int .i64 r) ∧ FoundT p ks r ∧ Below w.heap.size w w' := by
 have HV := qq hv; have HL := qq hv.len; have HP := qq hp; have cle := hv.le; have ccap := hv.cap; clear hv hp
 go_enter Tryz.func97, Tryz.ntmps97
 go_wp2
 go_loopw [8] (fun s wr => ∃ (j : Nat), s = .int .i64 j ∧ Hid (j <= n) ∧ Hid (∀ i, i < j -> p (fldT ks i) = false) ∧ Below w.heap.size w wr) (fun s _ => match s with | .int _ j => (n - j).toNat | _ => 0)
 case atStart => exact ⟨0, rfl, Nat.zero_le _, fun i hi => by omega, Below.refl _ _⟩
 case round =>
  obtain ⟨j, rfl, HJ, HF, hb⟩ := hrel; have RW := qq hb; clear hb
  by_cases hj : j < n
  · have hjI : (j : Int) < (n : Int) := by omega
    obtain ⟨b, off, A2, n2, c2, eA, hc0, hc1, hb2⟩ := HV.out.at_ hj; subst eA; obtain ⟨q, hq⟩ : ∃ q, off + j * 2 = q := ⟨_, rfl⟩; rw [hq] at hc0 hc1; have hc2 := cell_stays RW.out hc0; have hc3 := cell_stays RW.out hc1; have HB2 := qq hb2; clear hb2 hc0 hc1; obtain ⟨t, ht⟩ : ∃ t, fldT ks j = t := ⟨_, rfl⟩; have HT := qq ht; rw [ht] at hc2; clear ht
    go_wp2_with fail
    refine (HP.out _ t A2 n2 c2 _ RW.out (HB2.out.stays RW.out) ⟨j, by rw [HL.out]; exact hj, HT.out.symm⟩).mono ?_; rintro e y ⟨rfl, hb5⟩; have R5 := qt RW hb5; clear hb5
    cases hpt : p t with
    | true =>
     have HR : Hid (FoundT p ks j) := .inl ⟨j, by rw [HL.out]; exact hj, by rw [HT.out]; exact hpt, HF.out, rfl⟩; clear hpt; go_wp2; go_ret; exact ⟨_, rfl, HR.out, R5.out⟩
    | false =>
     have HF2 : Hid (∀ i, i < j + 1 -> p (fldT ks i) = false) := fun i hi => by
      by_cases e : i = j
      · subst e; rw [HT.out]; exact hpt
      · exact HF.out i (by omega)
     clear hpt; go_wp2
     go_roundw
     case rel => exact ⟨j + 1, by simp, qq (by omega), HF2, R5.out⟩
     case measure => simp; omega
  · have ej : j = n := Nat.le_antisymm (show j <= n from HJ.out) (Nat.le_of_not_lt hj); subst ej; have HR : Hid (FoundT p ks (-1)) := .inr ⟨fun i hi => HF.out i (by rw [<- HL.out]; exact hi), rfl⟩; go_wp2; go_ret; exact ⟨_, rfl, HR.out, RW.out⟩
theorem idxField (p : Int -> Bool) (A : Option Addr) (n c : Nat) (ks : List (Int × List UInt8)) (w : World) (hv : FldL w A n c ks)
    (hp : ∀ W k A n c l, Below w.heap.size w W -> Bytes W A n c l -> (∃ i, i < ks.length ∧ k = fldT ks i) -> Calls Tryz.prog 57 #[.agg #[.int .i64 k, .slice A n c]] W fun e w' => e = .returned (.bool (p k)) ∧ Below W.heap.size W w') :
    Calls Tryz.prog 56 #[.slice A n c, .func (.func 57) #[] #[]] w fun e w' => ∃ r : Int, e = .returned (.int .i64 r) ∧ FoundT p ks r ∧ Below w.heap.size w w' := by
 have HV := qq hv; have HL := qq hv.len; have HP := qq hp; have cle := hv.le; have ccap := hv.cap; clear hv hp
 go_enter Tryz.func56, Tryz.ntmps56
 go_wp2
 go_loopw [8] (fun s wr => ∃ (j : Nat), s = .int .i64 j ∧ Hid (j <= n) ∧ Hid (∀ i, i < j -> p (fldT ks i) = false) ∧ Below w.heap.size w wr) (fun s _ => match s with | .int _ j => (n - j).toNat | _ => 0)
 case atStart => exact ⟨0, rfl, Nat.zero_le _, fun i hi => by omega, Below.refl _ _⟩
 case round =>
  obtain ⟨j, rfl, HJ, HF, hb⟩ := hrel; have RW := qq hb; clear hb
  by_cases hj : j < n
  · have hjI : (j : Int) < (n : Int) := by omega
    obtain ⟨b, off, A2, n2, c2, eA, hc0, hc1, hb2⟩ := HV.out.at_ hj; subst eA; obtain ⟨q, hq⟩ : ∃ q, off + j * 2 = q := ⟨_, rfl⟩; rw [hq] at hc0 hc1; have hc2 := cell_stays RW.out hc0; have hc3 := cell_stays RW.out hc1; have HB2 := qq hb2; clear hb2 hc0 hc1; obtain ⟨t, ht⟩ : ∃ t, fldT ks j = t := ⟨_, rfl⟩; have HT := qq ht; rw [ht] at hc2; clear ht
    go_wp2_with fail
    refine (HP.out _ t A2 n2 c2 _ RW.out (HB2.out.stays RW.out) ⟨j, by rw [HL.out]; exact hj, HT.out.symm⟩).mono ?_; rintro e y ⟨rfl, hb5⟩; have R5 := qt RW hb5; clear hb5
    cases hpt : p t with
    | true =>
     have HR : Hid (FoundT p ks j) := .inl ⟨j, by rw [HL.out]; exact hj, by rw [HT.out]; exact hpt, HF.out, rfl⟩; clear hpt; go_wp2; go_ret; exact ⟨_, rfl, HR.out, R5.out⟩
    | false =>
     have HF2 : Hid (∀ i, i < j + 1 -> p (fldT ks i) = false) := fun i hi => by
      by_cases e : i = j
      · subst e; rw [HT.out]; exact hpt
      · exact HF.out i (by omega)
     clear hpt; go_wp2
     go_roundw
     case rel => exact ⟨j + 1, by simp, qq (by omega), HF2, R5.out⟩
     case measure => simp; omega
  · have ej : j = n := Nat.le_antisymm (show j <= n from HJ.out) (Nat.le_of_not_lt hj); subst ej; have HR : Hid (FoundT p ks (-1)) := .inr ⟨fun i hi => HF.out i (by rw [<- HL.out]; exact hi), rfl⟩; go_wp2; go_ret; exact ⟨_, rfl, HR.out, RW.out⟩
theorem idxL_new1  (p : List UInt8 -> Bool) (A : Option Addr) (n c : Nat) (ls : List (List UInt8)) (w : World) (hv : Lists w A n c ls)
    (hp : ∀ W A n c l, Below w.heap.size w W -> Bytes W A n c l -> Calls Tryz.prog 32 #[.slice A n c] W fun e w' => e = .returned (.bool (p l)) ∧ Below W.heap.size W w') :
    Calls Tryz.prog 83 #[.slice A n c, .func (.func 32) #[] #[]] w fun e w' => e = .returned (.int .i64 (idxI p ls)) ∧ Below w.heap.size w w' := by
 have HV := qq hv; have HL := qq hv.len; have HP := qq hp; have cle := hv.le; have ccap := hv.cap; clear hv hp
 go_enter Tryz.func83, Tryz.ntmps83
 go_wp2
 go_loopw [8] (fun s wr => ∃ (j : Nat), s = .int .i64 j ∧ Hid (j <= n) ∧ Hid (∀ i, i < j -> p (listAt ls i) = false) ∧ Below w.heap.size w wr) (fun s _ => match s with | .int _ j => (n - j).toNat | _ => 0)
 case atStart => exact ⟨0, rfl, Nat.zero_le _, fun i hi => by omega, Below.refl _ _⟩
 case round =>
  obtain ⟨j, rfl, HJ, HF, hb⟩ := hrel; have RW := qq hb; clear hb
  by_cases hj : j < n
  · have hjI : (j : Int) < (n : Int) := by omega
    obtain ⟨b, off, A2, n2, c2, eA, hc0, hb2⟩ := HV.out.at_ hj; subst eA; have hc2 := cell_stays RW.out hc0; have HB2 := qq hb2; clear hb2 hc0; obtain ⟨t, ht⟩ : ∃ t, listAt ls j = t := ⟨_, rfl⟩; have HT := qq ht; rw [ht] at HB2; clear ht
    go_wp2_with fail
    refine (HP.out _ A2 n2 c2 t RW.out (HB2.out.stays RW.out)).mono ?_; rintro e y ⟨rfl, hb5⟩; have R5 := qt RW hb5; clear hb5
    cases hpt : p t with
    | true =>
     have h := idxI_hit (p := p) (by rw [HL.out]; exact hj) (by rw [HT.out]; exact hpt) HF.out; have HR := qq h.1; clear h hpt; go_wp2; go_ret; exact ⟨by rw [HR.out]; rfl, R5.out⟩
    | false =>
     have HF2 : Hid (∀ i, i < j + 1 -> p (listAt ls i) = false) := fun i hi => by
      by_cases e : i = j
      · subst e; rw [HT.out]; exact hpt
      · exact HF.out i (by omega)
     clear hpt; go_wp2
     go_roundw
     case rel => exact ⟨j + 1, by simp, qq (by omega), HF2, R5.out⟩
     case measure => simp; omega
  · have ej : j = n := Nat.le_antisymm (show j <= n from HJ.out) (Nat.le_of_not_lt hj); subst ej; have h := idxI_miss HL.out HF.out; have HR := qq h.1; clear h; go_wp2; go_ret; exact ⟨by rw [HR.out]; rfl, RW.out⟩
theorem hasL_new1  (p : List UInt8 -> Bool) (A : Option Addr) (n c : Nat) (ls : List (List UInt8)) (w : World) (hv : Lists w A n c ls)
    (hp : ∀ W A n c l, Below w.heap.size w W -> Bytes W A n c l -> Calls Tryz.prog 32 #[.slice A n c] W fun e w' => e = .returned (.bool (p l)) ∧ Below W.heap.size W w') :
    Calls Tryz.prog 31 #[.slice A n c, .func (.func 32) #[] #[]] w fun e w' => e = .returned (.bool (ls.any p)) ∧ Below w.heap.size w w' := by
 have HC := qq (idxL_new1 p A n c ls w hv hp); clear hv hp
 go_enter Tryz.func31, Tryz.ntmps31
 go_wp2_with fail
 refine HC.out.mono ?_; rintro e y ⟨rfl, hb⟩; unfold idxI
 cases ha : ls.any p with
 | true =>
  simp only [if_true]; obtain ⟨k, hk⟩ : ∃ k, ls.findIdx p = k := ⟨_, rfl⟩; rw [hk]; have hk0 : (0 : Int) <= (k : Int) := by omega
  clear hk; go_wp2; go_ret; exact ⟨by rw [ha]; rfl, hb⟩
 | false =>
  go_wp2; go_ret; exact ⟨by rw [ha]; rfl, hb⟩
theorem idxL_has1  (x : Value) (p : List UInt8 -> Bool) (A : Option Addr) (n c : Nat) (ls : List (List UInt8)) (w : World) (hv : Lists w A n c ls)
    (hp : ∀ W A n c l, Below w.heap.size w W -> Bytes W A n c l -> Calls Tryz.prog 127 #[.slice A n c, x] W fun e w' => e = .returned (.bool (p l)) ∧ Below W.heap.size W w') :
    Calls Tryz.prog 83 #[.slice A n c, .func (.func 127) #[] #[x]] w fun e w' => e = .returned (.int .i64 (idxI p ls)) ∧ Below w.heap.size w w' := by
 have HV := qq hv; have HL := qq hv.len; have HP := qq hp; have cle := hv.le; have ccap := hv.cap; clear hv hp
 go_enter Tryz.func83, Tryz.ntmps83
 go_wp2
 go_loopw [8] (fun s wr => ∃ (j : Nat), s = .int .i64 j ∧ Hid (j <= n) ∧ Hid (∀ i, i < j -> p (listAt ls i) = false) ∧ Below w.heap.size w wr) (fun s _ => match s with | .int _ j => (n - j).toNat | _ => 0)
 case atStart => exact ⟨0, rfl, Nat.zero_le _, fun i hi => by omega, Below.refl _ _⟩
 case round =>
  obtain ⟨j, rfl, HJ, HF, hb⟩ := hrel; have RW := qq hb; clear hb
  by_cases hj : j < n
  · have hjI : (j : Int) < (n : Int) := by omega
    obtain ⟨b, off, A2, n2, c2, eA, hc0, hb2⟩ := HV.out.at_ hj; subst eA; have hc2 := cell_stays RW.out hc0; have HB2 := qq hb2; clear hb2 hc0; obtain ⟨t, ht⟩ : ∃ t, listAt ls j = t := ⟨_, rfl⟩; have HT := qq ht; rw [ht] at HB2; clear ht
    go_wp2_with fail
    refine (HP.out _ A2 n2 c2 t RW.out (HB2.out.stays RW.out)).mono ?_; rintro e y ⟨rfl, hb5⟩; have R5 := qt RW hb5; clear hb5
    cases hpt : p t with
    | true =>
     have h := idxI_hit (p := p) (by rw [HL.out]; exact hj) (by rw [HT.out]; exact hpt) HF.out; have HR := qq h.1; clear h hpt; go_wp2; go_ret; exact ⟨by rw [HR.out]; rfl, R5.out⟩
    | false =>
     have HF2 : Hid (∀ i, i < j + 1 -> p (listAt ls i) = false) := fun i hi => by
      by_cases e : i = j
      · subst e; rw [HT.out]; exact hpt
      · exact HF.out i (by omega)
     clear hpt; go_wp2
     go_roundw
     case rel => exact ⟨j + 1, by simp, qq (by omega), HF2, R5.out⟩
     case measure => simp; omega
  · have ej : j = n := Nat.le_antisymm (show j <= n from HJ.out) (Nat.le_of_not_lt hj); subst ej; have h := idxI_miss HL.out HF.out; have HR := qq h.1; clear h; go_wp2; go_ret; exact ⟨by rw [HR.out]; rfl, RW.out⟩
theorem hasL_has1  (x : Value) (p : List UInt8 -> Bool) (A : Option Addr) (n c : Nat) (ls : List (List UInt8)) (w : World) (hv : Lists w A n c ls)
    (hp : ∀ W A n c l, Below w.heap.size w W -> Bytes W A n c l -> Calls Tryz.prog 127 #[.slice A n c, x] W fun e w' => e = .returned (.bool (p l)) ∧ Below W.heap.size W w') :
    Calls Tryz.prog 31 #[.slice A n c, .func (.func 127) #[] #[x]] w fun e w' => e = .returned (.bool (ls.any p)) ∧ Below w.heap.size w w' := by
 have HC := qq (idxL_has1 x p A n c ls w hv hp); clear hv hp
 go_enter Tryz.func31, Tryz.ntmps31
 go_wp2_with fail
 refine HC.out.mono ?_; rintro e y ⟨rfl, hb⟩; unfold idxI
 cases ha : ls.any p with
 | true =>
  simp only [if_true]; obtain ⟨k, hk⟩ : ∃ k, ls.findIdx p = k := ⟨_, rfl⟩; rw [hk]; have hk0 : (0 : Int) <= (k : Int) := by omega
  clear hk; go_wp2; go_ret; exact ⟨by rw [ha]; rfl, hb⟩
 | false =>
  go_wp2; go_ret; exact ⟨by rw [ha]; rfl, hb⟩
theorem idxL_code1  (p : List UInt8 -> Bool) (A : Option Addr) (n c : Nat) (ls : List (List UInt8)) (w : World) (hv : Lists w A n c ls)
    (hp : ∀ W A n c l, Below w.heap.size w W -> Bytes W A n c l -> Calls Tryz.prog 120 #[.slice A n c] W fun e w' => e = .returned (.bool (p l)) ∧ Below W.heap.size W w') :
    Calls Tryz.prog 83 #[.slice A n c, .func (.func 120) #[] #[]] w fun e w' => e = .returned (.int .i64 (idxI p ls)) ∧ Below w.heap.size w w' := by
 have HV := qq hv; have HL := qq hv.len; have HP := qq hp; have cle := hv.le; have ccap := hv.cap; clear hv hp
 go_enter Tryz.func83, Tryz.ntmps83
 go_wp2
 go_loopw [8] (fun s wr => ∃ (j : Nat), s = .int .i64 j ∧ Hid (j <= n) ∧ Hid (∀ i, i < j -> p (listAt ls i) = false) ∧ Below w.heap.size w wr) (fun s _ => match s with | .int _ j => (n - j).toNat | _ => 0)
 case atStart => exact ⟨0, rfl, Nat.zero_le _, fun i hi => by omega, Below.refl _ _⟩
 case round =>
  obtain ⟨j, rfl, HJ, HF, hb⟩ := hrel; have RW := qq hb; clear hb
  by_cases hj : j < n
  · have hjI : (j : Int) < (n : Int) := by omega
    obtain ⟨b, off, A2, n2, c2, eA, hc0, hb2⟩ := HV.out.at_ hj; subst eA; have hc2 := cell_stays RW.out hc0; have HB2 := qq hb2; clear hb2 hc0; obtain ⟨t, ht⟩ : ∃ t, listAt ls j = t := ⟨_, rfl⟩; have HT := qq ht; rw [ht] at HB2; clear ht
    go_wp2_with fail
    refine (HP.out _ A2 n2 c2 t RW.out (HB2.out.stays RW.out)).mono ?_; rintro e y ⟨rfl, hb5⟩; have R5 := qt RW hb5; clear hb5
    cases hpt : p t with
    | true =>
     have h := idxI_hit (p := p) (by rw [HL.out]; exact hj) (by rw [HT.out]; exact hpt) HF.out; have HR := qq h.1; clear h hpt; go_wp2; go_ret; exact ⟨by rw [HR.out]; rfl, R5.out⟩
    | false =>
     have HF2 : Hid (∀ i, i < j + 1 -> p (listAt ls i) = false) := fun i hi => by
      by_cases e : i = j
      · subst e; rw [HT.out]; exact hpt
      · exact HF.out i (by omega)
     clear hpt; go_wp2
     go_roundw
     case rel => exact ⟨j + 1, by simp, qq (by omega), HF2, R5.out⟩
     case measure => simp; omega
  · have ej : j = n := Nat.le_antisymm (show j <= n from HJ.out) (Nat.le_of_not_lt hj); subst ej; have h := idxI_miss HL.out HF.out; have HR := qq h.1; clear h; go_wp2; go_ret; exact ⟨by rw [HR.out]; rfl, RW.out⟩
theorem hasL_code1  (p : List UInt8 -> Bool) (A : Option Addr) (n c : Nat) (ls : List (List UInt8)) (w : World) (hv : Lists w A n c ls)
    (hp : ∀ W A n c l, Below w.heap.size w W -> Bytes W A n c l -> Calls Tryz.prog 120 #[.slice A n c] W fun e w' => e = .returned (.bool (p l)) ∧ Below W.heap.size W w') :
    Calls Tryz.prog 31 #[.slice A n c, .func (.func 120) #[] #[]] w fun e w' => e = .returned (.bool (ls.any p)) ∧ Below w.heap.size w w' := by
 have HC := qq (idxL_code1 p A n c ls w hv hp); clear hv hp
 go_enter Tryz.func31, Tryz.ntmps31
 go_wp2_with fail
 refine HC.out.mono ?_; rintro e y ⟨rfl, hb⟩; unfold idxI
 cases ha : ls.any p with
 | true =>
  simp only [if_true]; obtain ⟨k, hk⟩ : ∃ k, ls.findIdx p = k := ⟨_, rfl⟩; rw [hk]; have hk0 : (0 : Int) <= (k : Int) := by omega
  clear hk; go_wp2; go_ret; exact ⟨by rw [ha]; rfl, hb⟩
 | false =>
  go_wp2; go_ret; exact ⟨by rw [ha]; rfl, hb⟩
end Go.Proofs.YtiemnacoebkalaaGreat
