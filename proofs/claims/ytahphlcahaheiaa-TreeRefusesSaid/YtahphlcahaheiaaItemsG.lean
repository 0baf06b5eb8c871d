/- The laws on append inside a drawn region, for an operation that is guarded. -/
import Derived.Test.YtahphlcahaheiaaItems
namespace Go.Proofs.Ytahphlcahaheiaa
open Go.RowKit

section
variable {α : Type} {sz : Nat} {enc : α → Option Addr → Nat → Nat → List Value} {dat : α → List UInt8} {e : TypeId} {w w' : World} {B n c : Nat} {A : Option Addr} {xs : List α}
theorem step_append_items_g {P : Program} {ops : Array Oper} {o : Oper} {a : Act} {K : Act → World → Prop} {Q : Exit → Act → World → Prop} {E : Prop} (hw : Region.wanted o (yielded ops a.tmps) = true) (s y : Operand) (t : TypeId)
    (hop : o.op = .call { callee := .builtin .append, args := #[s, y], argTypes := #[t, t] })
    (i : TypeInfo) (z : Value) (bytes : Nat) (ht : P.underlying t = some (.slice e)) (hi : P.info? e = some i) (hz : i.zero = some z)
    (hsize : i.size = sz) (hby : i.bytes = bytes) (hzs : z.cells.size = sz) (hsz : 0 < sz)
    (hs : a.eval s = .slice A n c) (hown : OwnItems sz enc dat e w B A n c xs) {A1 A2 : Option Addr} {n1 c1 c2 : Nat} (hy : a.eval y = .slice A2 1 c2) (x : α) (hl : (enc x A1 n1 c1).length = sz) (hr : Rd w sz A2 1 c2 (enc x A1 n1 c1)) (h1 : ∀ u ∈ enc x A1 n1 c1, u.oneCell' = true)
    (hb : Bytes w A1 n1 c1 (dat x)) (ho : Off A1 n1 (Value.slice A n c).ownBlock)
    (h63 : n + 1 ≤ maxLen) (hbytes : (n + 1) * bytes ≤ 140737488355328) (hbase : B ≤ w.heap.size)
    (h : ∀ A' c' w', OwnItems sz enc dat e w' B A' (n + 1) c' (xs ++ [x]) → w.grownBy w' (Value.slice A n c).ownBlock → Below B w w' → K (a.put o.dst (.slice A' (n + 1) c')) w') :
    if Region.wanted o (yielded ops a.tmps) = true then Oper.wp P o a w K Q else E := by
  rw [if_pos hw]
  obtain ⟨A', c', w', hrun, h2, h3, h4⟩ := run_append_items (P := P) t o.type i z bytes ht hi hz hsize hby hzs hsz hown x hl hr h1 hb ho h63 hbytes hbase
  unfold Oper.wp
  simp [execOp, hop, resolve, invoke, builtin, hs, hy, hrun, Result.andThen]
  exact h A' c' w' h2 h3 h4
end
section
variable {P : Program} {w : World} {B e size n c m c2 : Nat} {A A2 : Option Addr} {xs news : List Value}
theorem step_append_own_g {ops : Array Oper} {o : Oper} {a : Act} {K : Act → World → Prop} {Q : Exit → Act → World → Prop} {E : Prop} (hw : Region.wanted o (yielded ops a.tmps) = true) (s x : Operand) (t : TypeId)
    (ho : o.op = .call { callee := .builtin .append, args := #[s, x], argTypes := #[t, t] })
    (i : TypeInfo) (z : Value) (bytes : Nat) (ht : P.underlying t = some (.slice e)) (hi : P.info? e = some i) (hz : i.zero = some z)
    (hsize : i.size = size) (hby : i.bytes = bytes) (hzs : z.cells.size = size) (hsz : 0 < size)
    (hs : a.eval s = .slice A n c) (hown : w.ownsRow B e size (.slice A n c) n xs) (hx : a.eval x = .slice A2 m c2) (hr : Rd w size A2 m c2 news) (h1 : ∀ u ∈ news, u.oneCell' = true)
    (h63 : n + m ≤ maxLen) (hbytes : (n + m) * bytes ≤ 140737488355328) (hbase : B ≤ w.heap.size)
    (h : ∀ A' c' w', w'.ownsRow B e size (.slice A' (n + m) c') (n + m) (xs ++ news) → w.grownBy w' (Value.slice A n c).ownBlock → Below B w w' → K (a.put o.dst (.slice A' (n + m) c')) w') :
    if Region.wanted o (yielded ops a.tmps) = true then Oper.wp P o a w K Q else E := by
  rw [if_pos hw]
  obtain ⟨A', c', w', hrun, h2, h3, h4⟩ := run_append_rd (P := P) t o.type i z bytes ht hi hz hsize hby hzs hsz hown hr h1 h63 hbytes hbase
  unfold Oper.wp
  simp [execOp, ho, resolve, invoke, builtin, hs, hx, hrun, Result.andThen]
  exact h A' c' w' h2 h3 ((Below.refl B w).grown h3 hbase (fun k hk => (hown.lt k hk).1))
end
end Go.Proofs.Ytahphlcahaheiaa
