/- A row of fields of the call's own in which one field is set; a row of fields without its first one. -/
import Derived.Test.YtofadjcphaehcaaExtQ
namespace Go.Proofs.Ytofadjcphaehcaa
open Go.RowKit

/-- The block g holds the fields fs. -/
def FldRow (w : World) (B g n c : Nat) (fs : List (Int × List UInt8)) : Prop :=
  ∃ cur : Array Value, Blk w g 38 cur ∧ B ≤ g ∧ n ≤ c ∧ c ≤ maxLen ∧ fs.length = n ∧ ItemsV 2 encFld Prod.snd w (some g) (cur.toList.take (n * 2)) fs
theorem FldsA.row {w : World} {B n c : Nat} {A : Option Addr} {fs : List (Int × List UInt8)} (h : FldsA w B A n c fs) (hn : 0 < n) : ∃ g, A = some ⟨g, 0, none⟩ ∧ FldRow w B g n c fs := by
  have hl := h.len (by decide)
  obtain ⟨vs, h1, h2⟩ := h
  obtain ⟨q, h3⟩ := h1
  rcases h3 with ⟨hv, h0⟩ | ⟨g, cap, cur, hv, hB, hg, hn', hc, hs, ht⟩
  · exfalso
    rw [h0] at q; simp at q; omega
  · injection hv with e1 e2 e3
    subst e1 e3
    exact ⟨g, rfl, cur, hg, hB, hn', hc, hl, by rw [ht]; exact h2⟩
section
variable {w w' : World} {B g n c k : Nat} {fs : List (Int × List UInt8)}
theorem FldRow.stays (h : FldRow w B g n c fs) (hb : Below w.heap.size w w') : FldRow w' B g n c fs := by
  obtain ⟨cur, h1, h2, h3, h4, h5, h6⟩ := h
  exact ⟨cur, h1.stays hb, h2, h3, h4, h5, h6.stays hb⟩
theorem FldRow.lt (h : FldRow w B g n c fs) : g < w.heap.size := by obtain ⟨cur, h1, _⟩ := h; exact h1.lt
theorem FldRow.ge (h : FldRow w B g n c fs) : B ≤ g := by obtain ⟨cur, _, h2, _⟩ := h; exact h2
theorem FldRow.flds (h : FldRow w B g n c fs) : FldL w (some ⟨g, 0, none⟩) n c fs := by
  obtain ⟨cur, h1, h2, h3, h4, h5, h6⟩ := h
  have hl := h6.1
  refine ⟨cur.toList.take (n * 2), ⟨by rw [hl, h5], h3, h4, fun i u hu => ⟨g, 0, rfl, ?_⟩⟩, h5, fun i f hf => ?_⟩
  · rw [Nat.zero_add, h1.cell i]
    rw [List.getElem?_take] at hu
    split at hu
    · simpa using hu
    · cases hu
  · obtain ⟨A', n', c', e1, e2, _⟩ := h6.2 i f hf
    have a0 := e1 0 (by omega)
    have a1 := e1 1 (by omega)
    simp [encFld] at a0 a1
    exact ⟨A', n', c', by simpa using a0, by simpa using a1, e2⟩
theorem FldRow.cells (h : FldRow w B g n c fs) (hk : k < n) : (∃ u0, w.cell? ⟨g, k * 2, none⟩ = some u0) ∧ (∃ u1, w.cell? ⟨g, k * 2 + 1, none⟩ = some u1) ∧ w.frozen? ⟨g, k * 2, none⟩ = false ∧ w.frozen? ⟨g, k * 2 + 1, none⟩ = false := by
  have h0 := h
  obtain ⟨b, off, A', n', c', ha, e1, e2, _⟩ := h.flds.at_ hk
  obtain ⟨cur, h1, h2, h3, h4, h5, h6⟩ := h0
  simp only [Option.some.injEq, Addr.mk.injEq] at ha
  obtain ⟨rfl, rfl, _⟩ := ha
  rw [Nat.zero_add] at e1 e2
  exact ⟨⟨_, e1⟩, ⟨_, e2⟩, h1.frozen _, h1.frozen _⟩
theorem FldRow.set (h : FldRow w B g n c fs) (hk : k < n) {t : Int} {A1 : Option Addr} {n1 c1 : Nat} {d : List UInt8} (hd : Bytes w A1 n1 c1 d) (ho : Off A1 n1 (some g)) :
    FldRow ((w.setCell ⟨g, k * 2, none⟩ (.int .i64 t)).setCell ⟨g, k * 2 + 1, none⟩ (.slice A1 n1 c1)) B g n c (fs.set k (t, d)) := by
  obtain ⟨cur, h1, h2, h3, h4, h5, h6⟩ := h
  have hG : w.grownBy ((w.setCell ⟨g, k * 2, none⟩ (.int .i64 t)).setCell ⟨g, k * 2 + 1, none⟩ (.slice A1 n1 c1)) (some g) := grown_puts (put_grown g (k * 2) _) (k * 2 + 1) _
  have hI := h6.grew hG (.inl rfl)
  have hcl : n * 2 ≤ cur.toList.length := by
    have := h6.1
    rw [List.length_take, h5] at this
    omega
  refine ⟨_, (h1.put (k * 2) _).put (k * 2 + 1) _, h2, h3, h4, by rw [List.length_set]; exact h5, ?_⟩
  rw [Array.toList_setIfInBounds, Array.toList_setIfInBounds, List.take_set, List.take_set]
  refine ⟨by rw [List.length_set, List.length_set, List.length_set]; exact hI.1, fun i x hx => ?_⟩
  by_cases e : i = k
  · subst e
    rw [List.getElem?_set_self (by omega)] at hx
    injection hx with hx
    subst hx
    refine ⟨A1, n1, c1, fun j hj => ?_, hd.kept hG ho, ho⟩
    match j, hj with
    | 0, _ =>
      rw [List.getElem?_set_ne (by omega)]; exact List.getElem?_set_self (by rw [List.length_take]; omega)
    | 1, _ =>
      rw [List.getElem?_set_self (by rw [List.length_set, List.length_take]; omega)]; rfl
  · rw [List.getElem?_set_ne (Ne.symm e)] at hx
    obtain ⟨A', n', c', e1, e2, e3⟩ := hI.2 i x hx
    refine ⟨A', n', c', fun j hj => ?_, e2, e3⟩
    rw [List.getElem?_set_ne (by omega), List.getElem?_set_ne (by omega)]
    exact e1 j hj
end
theorem off_own {w : World} {B e sz n c m g T : Nat} {A : Option Addr} {xs : List Value} {cs : Array Value} (h : w.ownsRow B e sz (.slice A n c) m xs) (hB : Blk w g T cs) (hne : e ≠ T) : Off A n (some g) := by
  intro a ha hn e'
  injection e' with e'
  have := own_ne h hB hne
  rcases h.2 with ⟨hv, _⟩ | ⟨g2, cap, cur, hv, _⟩
  · injection hv with h1 _ _
    rw [ha] at h1; cases h1
  · injection hv with h1 _ _
    rw [ha] at h1
    injection h1 with h1
    subst h1
    simp only [] at e'
    subst e'
    exact this (by subst ha; simp [Value.ownBlock])
theorem ownE {w : World} {g B e : Nat} (h : Blk w g e #[]) (hB : B ≤ g) : w.ownsRow B e 1 (.slice (some ⟨g, 0, none⟩) 0 0) 0 [] :=
  ⟨rfl, .inr ⟨g, 0, #[], rfl, hB, h, Nat.le_refl _, by decide, rfl, rfl⟩⟩
theorem bytes_blk1 {w : World} {g : Nat} (h : Blk w g 5 #[.int .u8 0]) : Bytes w (some ⟨g, 0, none⟩) 1 1 [0] :=
  ⟨rfl, Nat.le_refl _, by decide, fun i u hu => ⟨g, 0, rfl, by rw [Nat.zero_add, h.cell i]; simpa [byteV] using hu⟩⟩
theorem run_append_bytes {w : World} {A A2 : Option Addr} {n c m c2 B : Nat} {xs : List Value} {l : List UInt8} (hown : w.ownsRow B 5 1 (.slice A n c) n xs) (hr : Bytes w A2 m c2 l) (hn : n + m ≤ 100000) (hz : B ≤ w.heap.size) (ty : TypeId) :
    ∃ A' c' w', (Builtin.append_ #[23, 23] ty #[.slice A n c, .slice A2 m c2]).run Try.prog w = .ok (.slice A' (n + m) c') w' ∧ w'.ownsRow B 5 1 (.slice A' (n + m) c') (n + m) (xs ++ l.map byteV) ∧ Below B w w' ∧ w.grownBy w' (Value.slice A n c).ownBlock := by
  obtain ⟨i0, hi, hz0, hz1, hz2⟩ := info_parts infoByteA
  obtain ⟨A', c', w', hrun, h2, h3, h4⟩ := run_append_rd (P := Try.prog) 23 ty i0 _ 1 Try.underlying23 hi hz0 hz1 hz2 rfl (by decide) hown hr (oneCell_bytes _) (by unfold maxLen; omega) (by omega) hz
  exact ⟨A', c', w', hrun, h2, (Below.refl B w).grown h3 hz (fun k hk => (hown.lt k hk).1), h3⟩
/-- Where a row of fields lies that begins behind the first one. -/
def cutF (A : Option Addr) (c : Nat) : Option Addr := if c = 1 then A else A.map (·.add 2)
theorem FldL.cut1 {w : World} {A : Option Addr} {n c d k : Nat} {fs : List (Int × List UInt8)} (h : FldL w A n c fs) (hn : 1 ≤ n) (hd : n - 1 = d) (hk : c - 1 = k) : FldL w (cutF A c) d k (fs.drop 1) := by
  subst hd hk
  have hle := h.le
  obtain ⟨vs, h1, h2, h3⟩ := h
  have hl := h1.1
  refine ⟨vs.drop 2, ⟨by rw [List.length_drop, hl]; omega, by omega, by have := h1.2.2.1; omega, fun i u hu => ?_⟩, by rw [List.length_drop, h2], fun i f hf => ?_⟩
  · rw [List.getElem?_drop] at hu
    obtain ⟨b, off, e, hc⟩ := h1.2.2.2 _ u hu
    have hi : 2 + i < vs.length := by
      rcases Nat.lt_or_ge (2 + i) vs.length with h | h
      · exact h
      · rw [List.getElem?_eq_none h] at hu; cases hu
    refine ⟨b, off + 2, ?_, by rw [show off + 2 + i = off + (2 + i) by omega]; exact hc⟩
    rw [cutF, if_neg (by omega), e]
    rfl
  · rw [List.getElem?_drop] at hf
    obtain ⟨A', n', c', e1, e2, e3⟩ := h3 _ f hf
    refine ⟨A', n', c', ?_, ?_, e3⟩
    · rw [List.getElem?_drop, ← e1]; congr 1; omega
    · rw [List.getElem?_drop, ← e2]; congr 1; omega
theorem und_flds : Try.prog.underlying 32 = some (.slice (Try.prog.elem 32)) := by kernel_rfl
theorem size_fld (w : World) : (sizeOf (Try.prog.elem 32)).run Try.prog w = .ok 2 w := by kernel_rfl
theorem run_cut1F {A : Option Addr} {n c d k : Nat} (h1 : 1 ≤ n) (hd : n - 1 = d) (hk : c - 1 = k) (w : World) :
    (Instr.slice 32 (.slice A n c) (some (.int .i64 1)) none none).run Try.prog w = .ok (.slice (cutF A c) d k) w := by
  subst hd hk
  rw [run_slice_l w 32 A n c und_flds .i64 1 (by omega) (by omega), size_fld]
  simp [Result.andThen, sliced, cutF]
theorem set_neT {fs : List (Int × List UInt8)} {k : Nat} (hk : k < fs.length) {t : Int} {d : List UInt8} (h : t ≠ fldT fs k) : decide (fs = fs.set k (t, d)) = false := by
  refine decide_eq_false (fun e => h ?_)
  have : fldT (fs.set k (t, d)) k = t := by simp [fldT, List.getD, hk]
  rw [← e] at this; exact this.symm
theorem set_neD {fs : List (Int × List UInt8)} {k : Nat} (hk : k < fs.length) {t : Int} {d : List UInt8} (h : d ≠ fldD fs k) : decide (fs = fs.set k (t, d)) = false := by
  refine decide_eq_false (fun e => h ?_)
  have : fldD (fs.set k (t, d)) k = d := by simp [fldD, List.getD, hk]
  rw [← e] at this; exact this.symm
theorem drop_ne {fs : List (Int × List UInt8)} (hk : 0 < fs.length) : decide (fs = fs.drop 1) = false := by
  refine decide_eq_false (fun e => ?_)
  have := congrArg List.length e
  rw [List.length_drop] at this; omega
end Go.Proofs.Ytofadjcphaehcaa
