/- The tags that the statements make of a tape of numbers. -/
import Derived.Test.YtbjmojajhkhekaaRgJ
import Derived.Test.YtbjmojajhkhekaaTakeI
import Derived.Test.YtbjmojajhkhekaaTape
namespace Go.Proofs.Ytbjmojajhkhekaa
open Go Go.RowKit

/-- The cells vs are those of the tags xs, whose bytes lie in neither block. -/
def Items2T (w : World) (b1 b2 : Option Nat) (vs : List Value) (xs : Tags) : Prop :=
  vs.length = xs.length * 2 ∧ ∀ (i : Nat) (x : ByteArray × List UInt8), xs[i]? = some x → ∃ A n c, vs[i * 2]? = some (.string x.1) ∧ vs[i * 2 + 1]? = some (.slice A n c) ∧ Bytes w A n c x.2 ∧ Off A n b1 ∧ Off A n b2
theorem off_grew28 {w : World} {b b' : Option Nat} {A : Option Addr} {n c : Nat} {l : List UInt8} (h : Bytes w A n c l) (ho : Off A n b) (hb : b' = b ∨ b' = some w.heap.size) : Off A n b' := by
  intro a ha hn
  rcases hb with rfl | rfl
  · exact ho a ha hn
  · intro e
    injection e with e
    have := h.lt hn a ha
    omega
theorem Items2T.grew1 {w w' : World} {b1 b1' b2 : Option Nat} {vs : List Value} {xs : Tags} (h : Items2T w b1 b2 vs xs) (hg : w.grownBy w' b1) (hb : b1' = b1 ∨ b1' = some w.heap.size) : Items2T w' b1' b2 vs xs :=
  ⟨h.1, fun i x hx => by obtain ⟨A, n, c, h1, h2, h3, h4, h5⟩ := h.2 i x hx; exact ⟨A, n, c, h1, h2, h3.kept hg h4, off_grew28 h3 h4 hb, h5⟩⟩
theorem Items2T.grew2 {w w' : World} {b1 b2 : Option Nat} {vs : List Value} {xs : Tags} (h : Items2T w b1 b2 vs xs) (hg : w.grownBy w' b2) : Items2T w' b1 b2 vs xs :=
  ⟨h.1, fun i x hx => by obtain ⟨A, n, c, h1, h2, h3, h4, h5⟩ := h.2 i x hx; exact ⟨A, n, c, h1, h2, h3.kept hg h5, h4, h5⟩⟩
theorem Items2T.snoc {w : World} {b1 b2 : Option Nat} {vs : List Value} {xs : Tags} (h : Items2T w b1 b2 vs xs) (x : ByteArray × List UInt8) {A : Option Addr} {n c : Nat} (hb : Bytes w A n c x.2) (h1 : Off A n b1) (h2 : Off A n b2) : Items2T w b1 b2 (vs ++ [.string x.1, .slice A n c]) (xs ++ [x]) := by
  refine ⟨by have := h.1; simp; omega, fun i y hy => ?_⟩
  have hl := h.1
  by_cases hi : i < xs.length
  · rw [List.getElem?_append_left hi] at hy
    obtain ⟨A', n', c', e1, e2, e3⟩ := h.2 i y hy
    exact ⟨A', n', c', by rw [List.getElem?_append_left (by omega)]; exact e1, by rw [List.getElem?_append_left (by omega)]; exact e2, e3⟩
  · rw [List.getElem?_append_right (by omega)] at hy
    have hi0 : i = xs.length := by
      rcases Nat.lt_or_ge (i - xs.length) 1 with h | h
      · omega
      · rw [List.getElem?_eq_none (by simpa using h)] at hy; cases hy
    subst hi0
    simp at hy
    subst hy
    exact ⟨A, n, c, by rw [← hl, List.getElem?_append_right (by omega)]; simp, by rw [← hl, List.getElem?_append_right (by omega)]; simp, hb, h1, h2⟩
theorem Bytes.ne_tag {w : World} {A : Option Addr} {n c ob T : Nat} {l : List UInt8} {s : ByteArray} {a b d : _} (h : Bytes w A n c l) (hB : Blk w ob T #[.string s, .slice a b d]) : Off A n (some ob) := by
  intro x hx hn e
  injection e with e
  obtain ⟨b', off, e', hc⟩ := h.at_ hn
  rw [hx] at e'
  injection e' with e'
  subst e'
  simp only [] at e
  subst e
  rw [hB.cell] at hc
  match off, hc with
  | 0, hc => simp at hc
  | 1, hc => simp at hc
  | k + 2, hc => simp at hc
/-- The row of tags that is made: its bytes lie off the tape's block bt. -/
def MadeRow (w : World) (XB bt : Nat) (AO : Option Addr) (k co : Nat) (ts : Tags) : Prop :=
  ∃ vs, w.ownsRow XB 60 2 (.slice AO k co) k vs ∧ Items2T w (Value.slice AO k co).ownBlock (some bt) vs ts
section
variable {w w' : World} {XB bt k co : Nat} {AO : Option Addr} {ts : Tags}
theorem MadeRow.nil (w : World) (XB bt : Nat) : MadeRow w XB bt none 0 0 [] := ⟨[], own_nil _ _ _ _, by simp, fun i x h => by simp at h⟩
theorem MadeRow.lt (h : MadeRow w XB bt AO k co ts) : ∀ q, (Value.slice AO k co).ownBlock = some q → q < w.heap.size := by obtain ⟨vs, h1, _⟩ := h; exact fun q hq => (h1.lt q hq).2
theorem MadeRow.move (h : MadeRow w XB bt AO k co ts) (hg : w.grownBy w' (some bt)) (hbt : bt < XB) : MadeRow w' XB bt AO k co ts := by
  obtain ⟨vs, h1, h2⟩ := h
  exact ⟨vs, h1.kept hg (by cases ho : (Value.slice AO k co).ownBlock with
    | none => exact .inl rfl
    | some q => exact .inr (fun e => by injection e with e; have := (h1.lt q ho).1; omega)), h2.grew2 hg⟩
theorem MadeRow.put (h : MadeRow w XB bt AO k co ts) {g i : Nat} {s : ByteArray} {a b d : _} (hB : Blk w g 60 #[.string s, .slice a b d]) (hne : ∀ q, (Value.slice AO k co).ownBlock = some q → q ≠ g) (v : Value) : MadeRow (w.setCell ⟨g, i, none⟩ v) XB bt AO k co ts := by
  obtain ⟨vs, h1, h2⟩ := h
  have hg : w.grownBy (w.setCell ⟨g, i, none⟩ v) (some g) := ⟨rfl, rfl, rfl, by simp [World.setCell], fun j hj hjb => Below.heap_setCell _ _ _ _ (fun e => hjb (by rw [e]))⟩
  refine ⟨vs, h1.kept hg (by cases ho : (Value.slice AO k co).ownBlock with
    | none => exact .inl rfl
    | some q => exact .inr (fun e => by injection e with e; exact hne q ho e)), h2.1, fun i x hx => ?_⟩
  obtain ⟨A, n, c, e1, e2, e3, e4, e5⟩ := h2.2 i x hx
  exact ⟨A, n, c, e1, e2, e3.kept hg (e3.ne_tag hB), e4, e5⟩
theorem MadeRow.tags (h : MadeRow w XB bt AO k co ts) : TagL w AO k co ts := by
  obtain ⟨vs, h1, h2⟩ := h
  have hr := own_rd h1
  exact ⟨vs, hr, by have := hr.1; have := h2.1; omega, fun i x hx => by obtain ⟨A, n, c, e1, e2, e3, _⟩ := h2.2 i x hx; exact ⟨A, n, c, e1, e2, e3⟩⟩
theorem MadeRow.app (h : MadeRow w XB bt AO k co ts) {gf : Nat} {nm : ByteArray} {A1 : Option Addr} {n1 c1 : Nat} {d : List UInt8} (hB : Blk w gf 60 #[.string nm, .slice A1 n1 c1]) (hd : Bytes w A1 n1 c1 d) (ho : Off A1 n1 (Value.slice AO k co).ownBlock) (ho2 : Off A1 n1 (some bt)) (hk : k ≤ 1000) (hz : XB ≤ w.heap.size) (ty : TypeId) :
    ∃ v w', (Builtin.append_ #[22, 22] ty #[.slice AO k co, .slice (some ⟨gf, 0, none⟩) 1 1]).run Try.prog w = .ok v w' ∧ ∃ A8 c8, v = .slice A8 (k + 1) c8 ∧ MadeRow w' XB bt A8 (k + 1) c8 (ts ++ [(nm, d)]) ∧ Below XB w w' := by
  obtain ⟨i0, hi, hz0, hz1, hz2⟩ := info_parts infoTag
  obtain ⟨vs, h1, h2⟩ := h
  have hr : Rd w 2 (some ⟨gf, 0, none⟩) 1 1 [.string nm, .slice A1 n1 c1] := by
    refine ⟨rfl, Nat.le_refl _, by decide, fun i u hu => ⟨gf, 0, rfl, ?_⟩⟩
    rw [Nat.zero_add, hB.cell i, ← hu]
    match i with
    | 0 | 1 => rfl
    | i + 2 => rfl
  obtain ⟨A8, c8, w8, hrun, g2, g3, g4⟩ := run_append_rd (P := Try.prog) 22 ty i0 _ 40 Try.underlying22 hi hz0 hz1 hz2 rfl (by decide) h1 hr (by simp [Value.oneCell']) (by unfold maxLen; omega) (by omega) hz
  refine ⟨_, w8, hrun, A8, c8, rfl, ⟨_, g2, (h2.grew1 g3 g4).snoc (nm, d) (hd.kept g3 ho) (off_grew28 hd ho g4) ho2⟩, (Below.refl XB w).grown g3 hz (fun q hq => (h1.lt q hq).1)⟩
end
theorem Bytes.moved {w w' : World} {A : Option Addr} {n c bt : Nat} {l : List UInt8} (h : Bytes w A n c l) (ho : Off A n (some bt)) (hg : w.grownBy w' (some bt)) : Bytes w' A n c l := h.kept hg ho
/-! What holds of the values of the region that makes a tag. -/
def D8 (bt : Nat) (lb : List UInt8) (x : Value) (w : World) : Prop := ∃ g, x = .slice (some ⟨g, 0, none⟩) 3 3 ∧ Bytes w (some ⟨g, 0, none⟩) 3 3 lb ∧ Off (some ⟨g, 0, none⟩) 3 (some bt)
def DS (x : Value) : Prop := ∃ s : ByteArray, x = .string s
def DS3 (x : Value) : Prop := ∃ s : ByteArray, x = .string s ∧ s.size ≤ 100
def D12 (x : Value) : Prop := ∃ r : Int, x = .int .i64 r
def D13 (bt base : Nat) (x : Value) (w : World) : Prop := ∃ A c l, x = .slice A 32 c ∧ Bytes w A 32 c l ∧ Off A 32 (some bt) ∧ Fresh base A
def D15 (x : Value) : Prop := ∃ r : Nat, x = .int .i64 (r : Int) ∧ r ≤ 8
def D16 (x : Value) : Prop := ∃ r : Nat, x = .int .i64 (r : Int) ∧ r ≤ 32
def D17 (bt base : Nat) (x : Value) (w : World) : Prop := ∃ A n c l, x = .slice A n c ∧ n ≤ 32 ∧ Bytes w A n c l ∧ Off A n (some bt) ∧ Fresh base A
def D18 (bt base : Nat) (x : Value) (w : World) : Prop := ∃ s A n c l, x = .agg #[.string s, .slice A n c] ∧ n ≤ 32 ∧ Bytes w A n c l ∧ Off A n (some bt) ∧ Fresh base A
def D19 (base : Nat) (x : Value) (w : World) : Prop := ∃ g, x = .pointer (some ⟨g, 0, none⟩) ∧ Blk w g 60 #[.string ByteArray.empty, .slice none 0 0] ∧ base ≤ g
def D20 (bt base : Nat) (x : Value) (w : World) : Prop := ∃ g s A n c l, x = .pointer (some ⟨g, 0, none⟩) ∧ Blk w g 60 #[.string s, .slice A n c] ∧ base ≤ g ∧ n ≤ 32 ∧ Bytes w A n c l ∧ Off A n (some bt) ∧ Fresh base A
section
variable {w w' : World} {bt base : Nat} {x : Value} (hg : w.grownBy w' (some bt)) (hbt : bt < base)
include hg
theorem D8.kept {lb : List UInt8} (h : D8 bt lb x w) : D8 bt lb x w' := by obtain ⟨g, h1, h2, h3⟩ := h; exact ⟨g, h1, h2.kept hg h3, h3⟩
theorem D13.kept (h : D13 bt base x w) : D13 bt base x w' := by obtain ⟨A, c, l, h1, h2, h3, h4⟩ := h; exact ⟨A, c, l, h1, h2.kept hg h3, h3, h4⟩
theorem D17.kept (h : D17 bt base x w) : D17 bt base x w' := by obtain ⟨A, n, c, l, h1, h0, h2, h3, h4⟩ := h; exact ⟨A, n, c, l, h1, h0, h2.kept hg h3, h3, h4⟩
theorem D18.kept (h : D18 bt base x w) : D18 bt base x w' := by obtain ⟨s, A, n, c, l, h1, h0, h2, h3, h4⟩ := h; exact ⟨s, A, n, c, l, h1, h0, h2.kept hg h3, h3, h4⟩
include hbt
theorem D19.kept (h : D19 base x w) : D19 base x w' := by obtain ⟨g, h1, h2, h3⟩ := h; exact ⟨g, h1, h2.grown hg (fun e => by injection e with e; omega), h3⟩
end
/-- What holds when the operations L are done. -/
structure MI (w0 : World) (bt : Nat) (lt : List Int) (XB base : Nat) (AO : Option Addr) (k co : Nat) (ts : Tags) (lb : List UInt8) (L : Array Bool) (w : World) (x29 x30 x31 x33 x34 x36 x37 x38 x39 x7 : Value) : Prop where
  pre : ∀ j, j ∈ [0, 1, 2, 3, 4, 5, 6, 7, 11, 14] → L.getD j false = true
  tape : ∃ kt, Tape w0.heap.size w bt lt kt
  row : MadeRow w XB bt AO k co ts
  bel : Below w0.heap.size w0 w
  siz : base ≤ w.heap.size
  d8 : L.getD 20 false = false → L.getD 8 false = true → D8 bt lb x29 w
  d9 : L.getD 20 false = false → L.getD 9 false = true → DS3 x30
  d10 : L.getD 20 false = false → L.getD 10 false = true → DS x31
  d12 : L.getD 20 false = false → L.getD 12 false = true → D12 x33
  d13 : L.getD 20 false = false → L.getD 13 false = true → D13 bt base x34 w
  d15 : L.getD 20 false = false → L.getD 15 false = true → D15 x36
  d16 : L.getD 20 false = false → L.getD 16 false = true → D16 x37
  d17 : L.getD 20 false = false → L.getD 17 false = true → D17 bt base x38 w
  d18 : L.getD 20 false = false → L.getD 18 false = true → D18 bt base x39 w
  d19 : L.getD 20 false = false → L.getD 19 false = true → D19 base x7 w
  d20 : L.getD 20 false = true → D20 bt base x7 w
  all : L.getD 20 false = true → ∀ j, j < 20 → L.getD j false = true
theorem bytes_blk3 {w : World} {g b1 b2 : Nat} (h : Blk w g 5 #[.int .u8 (b1 : Int), .int .u8 (b2 : Int), .int .u8 88]) (h1 : b1 < 256) (h2 : b2 < 256) : Bytes w (some ⟨g, 0, none⟩) 3 3 [UInt8.ofNat b1, UInt8.ofNat b2, 88] := by
  refine ⟨rfl, Nat.le_refl _, by decide, fun i u hu => ⟨g, 0, rfl, ?_⟩⟩
  rw [Nat.zero_add, h.cell i, ← hu]
  match i with
  | 0 => simp [byteV, Nat.mod_eq_of_lt h1]
  | 1 => simp [byteV, Nat.mod_eq_of_lt h2]
  | 2 => rfl
  | i + 3 => rfl
theorem tape_put {B g bt i : Nat} {w : World} {l : List Int} {kt : Nat} (h : Tape B w bt l kt) (h1 : B ≤ g) (h2 : g ≠ bt) (v : Value) : Tape B (w.setCell ⟨g, i, none⟩ v) bt l kt :=
  h.keep fun j hj => Below.heap_setCell _ _ _ _ (fun e => by simp only [] at e; rcases hj with h | h <;> omega)
theorem tape_below {B XB bt : Nat} {w w' : World} {l : List Int} {kt : Nat} (h : Tape B w bt l kt) (hb : Below XB w w') (h1 : bt < XB) : Tape B w' bt l kt :=
  h.keep fun j hj => hb.block j (by have := h.ge; rcases hj with q | q <;> omega)
theorem put_self28 (a : Act) (d : Nat) : a.put (some d) (a.tmps.getD d undef) = a := by
  cases a with
  | mk t ds =>
    simp only [Act.put]
    congr 1
    apply Array.ext
    · simp
    · intro i h1 h2
      rw [Array.getElem_setIfInBounds]
      split
      · rename_i e; subst e; simp [Array.getD, h2]
      · rfl
theorem putsMade (a : Act) : a = ((((((((((a.put (some 29) (a.tmps.getD 29 undef)).put (some 30) (a.tmps.getD 30 undef)).put (some 31) (a.tmps.getD 31 undef)).put (some 33) (a.tmps.getD 33 undef)).put (some 34) (a.tmps.getD 34 undef)).put (some 36) (a.tmps.getD 36 undef)).put (some 37) (a.tmps.getD 37 undef)).put (some 38) (a.tmps.getD 38 undef)).put (some 39) (a.tmps.getD 39 undef)).put (some 7) (a.tmps.getD 7 undef)) := by simp only [put_self28]
theorem put_grown28 {w : World} (ob i : Nat) (v : Value) : w.grownBy (w.setCell ⟨ob, i, none⟩ v) (some ob) := ⟨rfl, rfl, rfl, by simp [World.setCell], fun j hj hjb => Below.heap_setCell _ _ _ _ (fun e => hjb (by rw [e]))⟩
theorem set20 {L : Array Bool} (h : L.size = 21) : (L.setIfInBounds 20 true).getD 20 false = true := by
  rw [arr_getD, Array.getElem?_setIfInBounds_self_of_lt (by omega)]; rfl
theorem below_only {B bt : Nat} {w w' : World} (h : w.grownBy w' (some bt)) (hb : B ≤ bt) (_hz : B ≤ w.heap.size) : Below B w w' :=
  (Below.refl B w).grown h _hz (fun q hq => by injection hq with hq; omega)
theorem few_snoc {ts : Tags} (h : ∀ i, (tgD ts i).length ≤ 32) (s : ByteArray) (d : List UInt8) (hd : d.length ≤ 32) : ∀ i, (tgD (ts ++ [(s, d)]) i).length ≤ 32 := fun i => by
  rcases Nat.lt_trichotomy i ts.length with h1 | h1 | h1
  · have : tgD (ts ++ [(s, d)]) i = tgD ts i := by simp [tgD, List.getD, List.getElem?_append_left h1]
    rw [this]; exact h i
  · subst h1
    simp [tgD, List.getD]; exact hd
  · have : tgD (ts ++ [(s, d)]) i = [] := by
      simp only [tgD, List.getD]
      rw [List.getElem?_eq_none (by simp; omega)]; rfl
    rw [this]; simp
def PostMade (w : World) (e : Ending) (w' : World) : Prop := ∃ A' m c' ts, e = .returned (.slice A' m c') ∧ TagL w' A' m c' ts ∧ (∀ i, (tgD ts i).length ≤ 32) ∧ m ≤ 8 ∧ Below w.heap.size w w'
set_option maxRecDepth 100000 in
set_option maxHeartbeats 4000000 in
theorem made_any (A : Option Addr) (n c : Nat) (l : List Int) (w : World) (hv : Rd w 1 A n c (l.map (Value.int .i64))) :
    Calls Try.prog 15 #[.slice A n c] w (PostMade w) := by
  have HV := Lib.hid hv
  have hn := hv.2.1
  have hc := hv.2.2.1
  unfold maxLen at hc
  clear hv
  go_enter Try.func15, Try.ntmps15
  go_wp2_with fail
  refine (tape_new _ _ _ l _ HV.out (by omega)).mono ?_
  rintro e y1 ⟨bt, rfl, ht, hb⟩
  have hbx : Below w.heap.size w y1 := below_via (by go_grown) hb (by first | (simp; done) | (simp; omega))
  have TP := Lib.hid ht
  have R2 := Lib.hid hbx
  have hz_y1 := R2.out.size
  clear hb hbx ht
  have hbge := TP.out.ge
  have hblt := TP.out.lt
  go_wp2_with fail
  refine (int_any _ bt l 0 9 (by decide) (by decide) _ TP.out).mono ?_
  rintro e X0 ⟨k1, rfl, ht, ho⟩
  have R0 := Lib.hid (R2.out.trans (below_only ho hbge hz_y1))
  have hX0 : bt < X0.heap.size := Nat.lt_of_lt_of_le hblt ho.size
  have TP0 := Lib.hid (show ∃ kt, Tape w.heap.size X0 bt l kt from ⟨_, ht⟩)
  obtain ⟨N, hN⟩ : ∃ N : Nat, tapeAt l 0 % 9 = (N : Int) := ⟨(tapeAt l 0 % 9).toNat, by omega⟩
  have hN8 : N ≤ 8 := by omega
  rw [hN]
  have hz_X0 := R0.out.size
  clear ht ho hN TP R2 hz_y1
  go_wp2_with fail
  go_loopw [4, 5, 6] (fun so sn si wr => ∃ (j nm k co : Nat) (AO : Option Addr) (ts : Tags), si = .int .i64 j ∧ sn = .int .i64 nm ∧ so = .slice AO k co ∧ j + k ≤ 8 ∧ nm ≤ 3 * k ∧ Hid (∃ kt, Tape w.heap.size wr bt l kt) ∧ Hid (MadeRow wr X0.heap.size bt AO k co ts) ∧ Hid (∀ i, (tgD ts i).length ≤ 32) ∧ Below w.heap.size w wr ∧ X0.heap.size ≤ wr.heap.size) (fun _ _ si _ => (intOf si).toNat)
  case atStart => exact ⟨N, 0, 0, 0, none, [], rfl, rfl, rfl, by omega, by omega, TP0, MadeRow.nil _ _ _, (fun i => by simp [tgD]), R0.out, Nat.le_refl _⟩
  case round =>
    clear TP0
    obtain ⟨j, nm, k, co, AO, ts, rfl, rfl, rfl, hjk, hnm, TP, HO, HL, hbr, hsX⟩ := hrel
    have RW := Lib.hid hbr
    have hz_wr := hbr.size
    have o1 := HO.out.tags.le
    have o2 := HO.out.tags.cap
    clear hbr
    by_cases hj : 0 < j
    ·
      have hji : (0 : Int) < (j : Int) := by omega
      obtain ⟨kt, ht0⟩ := TP.out
      go_wp2_with fail
      refine (int_any _ bt l kt 3 (by decide) (by decide) _ ht0).mono ?_
      rintro e Y ⟨k2, rfl, ht, ho⟩
      have RY := Lib.hid (RW.out.trans (below_only ho hbge hz_wr))
      have TP := Lib.hid (show ∃ kt, Tape w.heap.size Y bt l kt from ⟨_, ht⟩)
      have HO := Lib.hid (HO.out.move ho hX0)
      have hXY : X0.heap.size ≤ Y.heap.size := Nat.le_trans hsX ho.size
      obtain ⟨r3, hr3⟩ : ∃ r : Nat, tapeAt l kt % 3 = (r : Int) := ⟨(tapeAt l kt % 3).toNat, by omega⟩
      have hr33 : r3 ≤ 2 := by omega
      rw [hr3]
      obtain ⟨s3, hs3⟩ : ∃ s : Nat, (1 : Int) + (r3 : Int) = (s : Int) := ⟨1 + r3, by omega⟩
      obtain ⟨m5, hm5⟩ : ∃ m : Nat, (nm : Int) + (s3 : Int) = (m : Int) := ⟨nm + s3, by omega⟩
      have hm53 : m5 ≤ 3 * (k + 1) := by omega
      have hm524 : m5 ≤ 24 := by omega
      have hz_Y := RY.out.size
      clear ht0 ht ho hr3 RW hz_wr hsX
      obtain ⟨d1, hd1⟩ : ∃ d, m5 / 10 = d := ⟨_, rfl⟩
      obtain ⟨d2, hd2⟩ : ∃ d, m5 % 10 = d := ⟨_, rfl⟩
      have e1 : (m5 : Int) / 10 = (d1 : Int) := by omega
      have e2 : (m5 : Int) % 10 = (d2 : Int) := by omega
      have e3 : Int.tdiv (m5 : Int) 10 = (d1 : Int) := by rw [Int.tdiv_eq_ediv_of_nonneg (by omega)]; exact e1
      have e4 : Int.tmod (m5 : Int) 10 = (d2 : Int) := by rw [Int.tmod_eq_emod_of_nonneg (by omega)]; exact e2
      obtain ⟨b1, hb1⟩ : ∃ b : Nat, (65 : Int) + (d1 : Int) = (b : Int) := ⟨65 + d1, by omega⟩
      obtain ⟨b2, hb2⟩ : ∃ b : Nat, (48 : Int) + (d2 : Int) = (b : Int) := ⟨48 + d2, by omega⟩
      have hb1w : IntKind.u8.wrap (b1 : Int) = (b1 : Int) := IntWalk.u8_in _ (by omega)
      have hb2w : IntKind.u8.wrap (b2 : Int) = (b2 : Int) := IntWalk.u8_in _ (by omega)
      have hb1v : b1 < 256 := by omega
      have hb2v : b2 < 256 := by omega
      have hd1w : IntKind.i64.wrap (d1 : Int) = (d1 : Int) := IntWalk.i64_in _ (by omega)
      have hd2w : IntKind.i64.wrap (d2 : Int) = (d2 : Int) := IntWalk.i64_in _ (by omega)
      have hb1x : IntKind.i64.wrap (b1 : Int) = (b1 : Int) := IntWalk.i64_in _ (by omega)
      have hb2x : IntKind.i64.wrap (b2 : Int) = (b2 : Int) := IntWalk.i64_in _ (by omega)
      clear hd1 hd2
      go_upto_region 8 with fail
      refine zBegin (Z := []) (S := fun _ => True) (by kernel_rfl) ?pz1 (trivial) (fun hPQ wd hbd hHeld => ?sz1)
      case pz1 => (repeat (with_reducible first | refine PQ.then ?_ | refine PQ.block ?_)); exact fun _ _ d _ _ h => by cases d <;> exact h
      case sz1 =>
        have HOY := Lib.hid HO.out
        have HO := HO.out.move (grown_of_below hbd _) hX0
        have TPd : ∃ kt, Tape w.heap.size wd bt l kt := by obtain ⟨kt, h⟩ := TP.out; exact ⟨kt, h.stays hbd⟩
        have RYd : Below w.heap.size w wd := RY.out.trans (hbd.mono hz_Y)
        have hsz : Y.heap.size ≤ wd.heap.size := hbd.size
        refine zVal (i := 0) (d := (some 21)) (v := ?_) rfl rfl (by kernel_rfl) (by kernel_rfl) (by kernel_rfl) (by kernel_rfl) hPQ (by rfl) (fun wq hSw => ?_) hHeld ?_
        rotate_left 1
        · go_simp; try with_reducible rfl
        try simp only [Act.put, List.setIfInBounds_toArray, List.set_cons_zero, List.set_cons_succ]
        refine zVal (i := 1) (d := (some 22)) (v := ?_) rfl rfl (by kernel_rfl) (by kernel_rfl) (by kernel_rfl) (by kernel_rfl) hPQ (by rfl) (fun wq hSw => ?_) hHeld ?_
        rotate_left 1
        · go_simp; try with_reducible rfl
        try simp only [Act.put, List.setIfInBounds_toArray, List.set_cons_zero, List.set_cons_succ]
        refine zVal (i := 2) (d := (some 23)) (v := ?_) rfl rfl (by kernel_rfl) (by kernel_rfl) (by kernel_rfl) (by kernel_rfl) hPQ (by rfl) (fun wq hSw => ?_) hHeld ?_
        rotate_left 1
        · go_simp; try with_reducible rfl
        try simp only [Act.put, List.setIfInBounds_toArray, List.set_cons_zero, List.set_cons_succ]
        refine zVal (i := 3) (d := (some 24)) (v := ?_) rfl rfl (by kernel_rfl) (by kernel_rfl) (by kernel_rfl) (by kernel_rfl) hPQ (by rfl) (fun wq hSw => ?_) hHeld ?_
        rotate_left 1
        · go_simp; try with_reducible rfl
        try simp only [Act.put, List.setIfInBounds_toArray, List.set_cons_zero, List.set_cons_succ]
        refine zVal (i := 4) (d := (some 25)) (v := ?_) rfl rfl (by kernel_rfl) (by kernel_rfl) (by kernel_rfl) (by kernel_rfl) hPQ (by rfl) (fun wq hSw => ?_) hHeld ?_
        rotate_left 1
        · go_simp; try with_reducible rfl
        try simp only [Act.put, List.setIfInBounds_toArray, List.set_cons_zero, List.set_cons_succ]
        refine zVal (i := 5) (d := (some 26)) (v := ?_) rfl rfl (by kernel_rfl) (by kernel_rfl) (by kernel_rfl) (by kernel_rfl) hPQ (by rfl) (fun wq hSw => ?_) hHeld ?_
        rotate_left 1
        · go_simp; try with_reducible rfl
        try simp only [Act.put, List.setIfInBounds_toArray, List.set_cons_zero, List.set_cons_succ]
        refine zVal (i := 6) (d := (some 27)) (v := ?_) rfl rfl (by kernel_rfl) (by kernel_rfl) (by kernel_rfl) (by kernel_rfl) hPQ (by rfl) (fun wq hSw => ?_) hHeld ?_
        rotate_left 1
        · go_simp; try with_reducible rfl
        try simp only [Act.put, List.setIfInBounds_toArray, List.set_cons_zero, List.set_cons_succ]
        refine zVal (i := 7) (d := (some 28)) (v := ?_) rfl rfl (by kernel_rfl) (by kernel_rfl) (by kernel_rfl) (by kernel_rfl) hPQ (by rfl) (fun wq hSw => ?_) hHeld ?_
        rotate_left 1
        · go_simp; try with_reducible rfl
        try simp only [Act.put, List.setIfInBounds_toArray, List.set_cons_zero, List.set_cons_succ]
        refine zVal (i := 11) (d := (some 32)) (v := ?_) rfl rfl (by kernel_rfl) (by kernel_rfl) (by kernel_rfl) (by kernel_rfl) hPQ (by rfl) (fun wq hSw => ?_) hHeld ?_
        rotate_left 1
        · go_simp; try with_reducible rfl
        try simp only [Act.put, List.setIfInBounds_toArray, List.set_cons_zero, List.set_cons_succ]
        refine zVal (i := 14) (d := (some 35)) (v := ?_) rfl rfl (by kernel_rfl) (by kernel_rfl) (by kernel_rfl) (by kernel_rfl) hPQ (by rfl) (fun wq hSw => ?_) hHeld ?_
        rotate_left 1
        · go_simp; try with_reducible rfl
        try simp only [Act.put, List.setIfInBounds_toArray, List.set_cons_zero, List.set_cons_succ]
        have hbY : bt < Y.heap.size := by omega
        have hOlt : ∀ q, (Value.slice AO k co).ownBlock = some q → q < Y.heap.size := HOY.out.lt
        have hbyt := hbge
        refine zInv (I := fun a0 L a' w' => ∃ x29 x30 x31 x33 x34 x36 x37 x38 x39 x7 : Value, a' = ((((((((((a0.put (some 29) x29).put (some 30) x30).put (some 31) x31).put (some 33) x33).put (some 34) x34).put (some 36) x36).put (some 37) x37).put (some 38) x38).put (some 39) x39).put (some 7) x7) ∧ MI w bt l X0.heap.size Y.heap.size AO k co ts [UInt8.ofNat b1, UInt8.ofNat b2, 88] L w' x29 x30 x31 x33 x34 x36 x37 x38 x39 x7) (by kernel_rfl) (by kernel_rfl) (of_decide_eq_true (by kernel_rfl)) ?hst ?hen ?h00
        case h00 =>
          refine ⟨_, _, _, _, _, _, _, _, _, _, putsMade _, ?_⟩
          refine ⟨(fun j hj => ?_), TPd, HO, RYd, hsz, (fun _ q => ?_), (fun _ q => ?_), (fun _ q => ?_), (fun _ q => ?_), (fun _ q => ?_), (fun _ q => ?_), (fun _ q => ?_), (fun _ q => ?_), (fun _ q => ?_), (fun _ q => ?_), (fun q => ?_), (fun q => ?_)⟩
          · simp only [List.mem_cons, List.not_mem_nil, or_false] at hj
            rcases hj with rfl | rfl | rfl | rfl | rfl | rfl | rfl | rfl | rfl | rfl <;> kernel_rfl
          · cases q
          · cases q
          · cases q
          · cases q
          · cases q
          · cases q
          · cases q
          · cases q
          · cases q
          · cases q
          · cases q
          · cases q
        case hen =>
          rintro L a' w' ⟨x29, x30, x31, x33, x34, x36, x37, x38, x39, x7, rfl, hM⟩ hall
          obtain ⟨g, s, AD, m, cD, d, rfl, BG, hg1, hm32, VB, OFb, FRD⟩ := hM.d20 (hall 20 (by decide))
          have TPe := Lib.hid hM.tape
          have HOe := Lib.hid hM.row
          have Re := Lib.hid hM.bel
          have hze := hM.siz
          clear hM hall
          simp only [Act.put, List.setIfInBounds_toArray, List.set_cons_zero, List.set_cons_succ]
          have hOlt2 := hOlt
          obtain ⟨kt, ht0⟩ := TPe.out
          go_wp2_with fail
          refine (int_any _ bt l kt 30 (by decide) (by decide) _ ht0).mono ?_
          rintro e y ⟨k2, rfl, ht, ho⟩
          have Ry := Lib.hid (Re.out.trans (below_only ho hbge Re.out.size))
          have hz_y := Ry.out.size
          have hsy : Y.heap.size ≤ y.heap.size := Nat.le_trans hze ho.size
          have HOy := Lib.hid (HOe.out.move ho hX0)
          have BGy := Lib.hid (BG.grown ho (fun e => by injection e with e; omega))
          have VBy := Lib.hid (VB.moved OFb ho)
          have TPy := Lib.hid ht
          have q1 := VBy.out.le
          have q2 := VBy.out.cap
          have HFR := Lib.hid FRD
          have HOF := Lib.hid OFb
          obtain ⟨r, hr⟩ : ∃ r, tapeAt l kt % 30 = r := ⟨_, rfl⟩
          rw [hr]
          clear hr ht ho ht0 TPe HOe Re hze BG VB FRD OFb
          by_cases hr29 : r = 29
          ·
            have z29 : (r == 29) = true := by simpa using hr29
            clear hr29
            have kG0 := BGy.out.cell 0
            have kG1 := BGy.out.cell 1
            have fG0 := BGy.out.frozen 0
            have fG1 := BGy.out.frozen 1
            have lG := BGy.out.lt
            have B1 := Lib.hid (show Blk (y.setCell ⟨g, 0, none⟩ (.string ⟨#[84, 48, 88]⟩)) g 60 #[.string ⟨#[84, 48, 88]⟩, .slice AD m cD] from BGy.out.put 0 (.string ⟨#[84, 48, 88]⟩))
            have M1 := Lib.hid (HOy.out.put (i := 0) BGy.out (fun q hq => by have := hOlt q hq; omega) (.string ⟨#[84, 48, 88]⟩))
            have V1 := Lib.hid (VBy.out.kept (put_grown28 (w := y) g 0 (.string ⟨#[84, 48, 88]⟩)) (VBy.out.ne_tag BGy.out))
            have T1 := Lib.hid (tape_put (i := 0) TPy.out (show w.heap.size ≤ g by omega) (by omega) (.string ⟨#[84, 48, 88]⟩))
            have Ry1 := Lib.hid (Ry.out.setCell (p := ⟨g, 0, none⟩) (show w.heap.size ≤ g by omega) (.string ⟨#[84, 48, 88]⟩))
            have hsy1 : Y.heap.size ≤ (y.setCell ⟨g, 0, none⟩ (.string ⟨#[84, 48, 88]⟩)).heap.size := by simpa [World.setCell] using hsy
            go_upto_region 18 with fail
            generalize y.setCell ⟨g, 0, none⟩ (.string ⟨#[84, 48, 88]⟩) = yq at *
            have hz_yq := Ry1.out.size
            clear kG0 kG1 fG0 fG1 lG BGy HOy VBy TPy Ry hz_y hsy
            have kG0 := B1.out.cell 0
            have kG1 := B1.out.cell 1
            have hOw : Hid (Off AD m (Value.slice AO k co).ownBlock) := Off.fresh HFR.out hOlt
            have hbW := below_alloc1 yq (.cells #[.string ⟨#[84, 48, 88]⟩, .slice AD m cD] 60)
            go_wp2_with (at_builtin; refine wpList_append_h (vs := .slice AO k co) (vx := .slice (some ⟨_, 0, none⟩) 1 1) rfl _ _ 22 22 rfl rfl rfl (R := fun v w' => ∃ A8 c8, v = .slice A8 (k + 1) c8 ∧ MadeRow w' X0.heap.size bt A8 (k + 1) c8 (ts ++ [(⟨#[84, 48, 88]⟩, _)]) ∧ Below X0.heap.size _ w') ((M1.out.move (grown_of_below hbW _) hX0).app (Blk.new _ _ _) (V1.out.stays hbW) hOw.out HOF.out (by omega) (by simp; omega) _) ?_; rintro v w8 ⟨A8, c8, rfl, hO, hb8⟩; have HO8 := Lib.hid hO; have HB8 := Lib.hid (hbW.mono (show X0.heap.size ≤ yq.heap.size by omega) |>.trans hb8); clear hO hb8)
            have R8 := Lib.hid (Ry1.out.trans (HB8.out.mono (by omega)))
            have TP8 := Lib.hid (show ∃ kt, Tape w.heap.size w8 bt l kt from ⟨_, tape_below T1.out HB8.out hX0⟩)
            have hs8 : X0.heap.size ≤ w8.heap.size := Nat.le_trans (by omega) HB8.out.size
            have HL8 := Lib.hid (few_snoc HL.out ⟨#[84, 48, 88]⟩ _ (show List.length _ ≤ 32 by rw [V1.out.len]; omega))
            clear HB8 kG0 kG1 hbW
            go_wp2
            go_roundw
            case rel => exact ⟨j - 1, m5, k + 1, c8, A8, _, by congr 1; omega, rfl, rfl, by omega, hm53, TP8, HO8, HL8, R8.out, hs8⟩
            case measure => simp [intOf]; omega
          by_cases hr28 : r = 28
          ·
            obtain ⟨h2, hh2⟩ : ∃ h2, m / 2 = h2 := ⟨_, rfl⟩
            have e9 : (m : Int) / 2 = (h2 : Int) := by omega
            have e8 : Int.tdiv (m : Int) 2 = (h2 : Int) := by rw [Int.tdiv_eq_ediv_of_nonneg (by omega)]; exact e9
            have hh2w : IntKind.i64.wrap (h2 : Int) = (h2 : Int) := IntWalk.i64_in _ (by omega)
            have hh2m : h2 ≤ m := by omega
            have hh2c : (h2 : Int) ≤ (cD : Int) := by omega
            have hh20 : (0 : Int) ≤ (h2 : Int) := by omega
            clear hh2
            have z29 : (r == 29) = false := by simpa using hr29
            have z28 : (r == 28) = true := by simpa using hr28
            clear hr28
            have kG0 := BGy.out.cell 0
            have kG1 := BGy.out.cell 1
            have fG0 := BGy.out.frozen 0
            have fG1 := BGy.out.frozen 1
            have lG := BGy.out.lt
            have B1 := Lib.hid (show Blk (y.setCell ⟨g, 1, none⟩ (.slice AD h2 cD)) g 60 #[.string s, .slice AD h2 cD] from BGy.out.put 1 (.slice AD h2 cD))
            have M1 := Lib.hid (HOy.out.put (i := 1) BGy.out (fun q hq => by have := hOlt q hq; omega) (.slice AD h2 cD))
            have V1 := Lib.hid ((VBy.out.cutTo h2 hh2m).kept (put_grown28 (w := y) g 1 (.slice AD h2 cD)) ((VBy.out.cutTo h2 hh2m).ne_tag BGy.out))
            have T1 := Lib.hid (tape_put (i := 1) TPy.out (show w.heap.size ≤ g by omega) (by omega) (.slice AD h2 cD))
            have Ry1 := Lib.hid (Ry.out.setCell (p := ⟨g, 1, none⟩) (show w.heap.size ≤ g by omega) (.slice AD h2 cD))
            have hsy1 : Y.heap.size ≤ (y.setCell ⟨g, 1, none⟩ (.slice AD h2 cD)).heap.size := by simpa [World.setCell] using hsy
            go_upto_region 18 with fail
            generalize y.setCell ⟨g, 1, none⟩ (.slice AD h2 cD) = yq at *
            have hz_yq := Ry1.out.size
            clear kG0 kG1 fG0 fG1 lG BGy HOy VBy TPy Ry hz_y hsy
            have kG0 := B1.out.cell 0
            have kG1 := B1.out.cell 1
            have hOw : Hid (Off AD h2 (Value.slice AO k co).ownBlock) := Off.fresh HFR.out hOlt
            have hbW := below_alloc1 yq (.cells #[.string s, .slice AD h2 cD] 60)
            go_wp2_with (at_builtin; refine wpList_append_h (vs := .slice AO k co) (vx := .slice (some ⟨_, 0, none⟩) 1 1) rfl _ _ 22 22 rfl rfl rfl (R := fun v w' => ∃ A8 c8, v = .slice A8 (k + 1) c8 ∧ MadeRow w' X0.heap.size bt A8 (k + 1) c8 (ts ++ [(s, _)]) ∧ Below X0.heap.size _ w') ((M1.out.move (grown_of_below hbW _) hX0).app (Blk.new _ _ _) (V1.out.stays hbW) hOw.out (fun a ha hn => HOF.out a ha (by omega)) (by omega) (by simp; omega) _) ?_; rintro v w8 ⟨A8, c8, rfl, hO, hb8⟩; have HO8 := Lib.hid hO; have HB8 := Lib.hid (hbW.mono (show X0.heap.size ≤ yq.heap.size by omega) |>.trans hb8); clear hO hb8)
            have R8 := Lib.hid (Ry1.out.trans (HB8.out.mono (by omega)))
            have TP8 := Lib.hid (show ∃ kt, Tape w.heap.size w8 bt l kt from ⟨_, tape_below T1.out HB8.out hX0⟩)
            have hs8 : X0.heap.size ≤ w8.heap.size := Nat.le_trans (by omega) HB8.out.size
            have HL8 := Lib.hid (few_snoc HL.out s _ (show List.length _ ≤ 32 by rw [V1.out.len]; omega))
            clear HB8 kG0 kG1 hbW
            go_wp2
            go_roundw
            case rel => exact ⟨j - 1, m5, k + 1, c8, A8, _, by congr 1; omega, rfl, rfl, by omega, hm53, TP8, HO8, HL8, R8.out, hs8⟩
            case measure => simp [intOf]; omega
          by_cases hr27 : r = 27
          ·
            have z29 : (r == 29) = false := by simpa using hr29
            have z28 : (r == 28) = false := by simpa using hr28
            have z27 : (r == 27) = true := by simpa using hr27
            clear hr27
            have kG0 := BGy.out.cell 0
            have kG1 := BGy.out.cell 1
            have fG0 := BGy.out.frozen 0
            have fG1 := BGy.out.frozen 1
            have lG := BGy.out.lt
            have B1 := Lib.hid (show Blk (y.setCell ⟨g, 0, none⟩ (.string ⟨#[84, 65, 48, 88]⟩)) g 60 #[.string ⟨#[84, 65, 48, 88]⟩, .slice AD m cD] from BGy.out.put 0 (.string ⟨#[84, 65, 48, 88]⟩))
            have M1 := Lib.hid (HOy.out.put (i := 0) BGy.out (fun q hq => by have := hOlt q hq; omega) (.string ⟨#[84, 65, 48, 88]⟩))
            have V1 := Lib.hid (VBy.out.kept (put_grown28 (w := y) g 0 (.string ⟨#[84, 65, 48, 88]⟩)) (VBy.out.ne_tag BGy.out))
            have T1 := Lib.hid (tape_put (i := 0) TPy.out (show w.heap.size ≤ g by omega) (by omega) (.string ⟨#[84, 65, 48, 88]⟩))
            have Ry1 := Lib.hid (Ry.out.setCell (p := ⟨g, 0, none⟩) (show w.heap.size ≤ g by omega) (.string ⟨#[84, 65, 48, 88]⟩))
            have hsy1 : Y.heap.size ≤ (y.setCell ⟨g, 0, none⟩ (.string ⟨#[84, 65, 48, 88]⟩)).heap.size := by simpa [World.setCell] using hsy
            go_upto_region 18 with fail
            generalize y.setCell ⟨g, 0, none⟩ (.string ⟨#[84, 65, 48, 88]⟩) = yq at *
            have hz_yq := Ry1.out.size
            clear kG0 kG1 fG0 fG1 lG BGy HOy VBy TPy Ry hz_y hsy
            have kG0 := B1.out.cell 0
            have kG1 := B1.out.cell 1
            have hOw : Hid (Off AD m (Value.slice AO k co).ownBlock) := Off.fresh HFR.out hOlt
            have hbW := below_alloc1 yq (.cells #[.string ⟨#[84, 65, 48, 88]⟩, .slice AD m cD] 60)
            go_wp2_with (at_builtin; refine wpList_append_h (vs := .slice AO k co) (vx := .slice (some ⟨_, 0, none⟩) 1 1) rfl _ _ 22 22 rfl rfl rfl (R := fun v w' => ∃ A8 c8, v = .slice A8 (k + 1) c8 ∧ MadeRow w' X0.heap.size bt A8 (k + 1) c8 (ts ++ [(⟨#[84, 65, 48, 88]⟩, _)]) ∧ Below X0.heap.size _ w') ((M1.out.move (grown_of_below hbW _) hX0).app (Blk.new _ _ _) (V1.out.stays hbW) hOw.out HOF.out (by omega) (by simp; omega) _) ?_; rintro v w8 ⟨A8, c8, rfl, hO, hb8⟩; have HO8 := Lib.hid hO; have HB8 := Lib.hid (hbW.mono (show X0.heap.size ≤ yq.heap.size by omega) |>.trans hb8); clear hO hb8)
            have R8 := Lib.hid (Ry1.out.trans (HB8.out.mono (by omega)))
            have TP8 := Lib.hid (show ∃ kt, Tape w.heap.size w8 bt l kt from ⟨_, tape_below T1.out HB8.out hX0⟩)
            have hs8 : X0.heap.size ≤ w8.heap.size := Nat.le_trans (by omega) HB8.out.size
            have HL8 := Lib.hid (few_snoc HL.out ⟨#[84, 65, 48, 88]⟩ _ (show List.length _ ≤ 32 by rw [V1.out.len]; omega))
            clear HB8 kG0 kG1 hbW
            go_wp2
            go_roundw
            case rel => exact ⟨j - 1, m5, k + 1, c8, A8, _, by congr 1; omega, rfl, rfl, by omega, hm53, TP8, HO8, HL8, R8.out, hs8⟩
            case measure => simp [intOf]; omega
          by_cases hr26 : r = 26
          ·
            have z29 : (r == 29) = false := by simpa using hr29
            have z28 : (r == 28) = false := by simpa using hr28
            have z27 : (r == 27) = false := by simpa using hr27
            have z26 : (r == 26) = true := by simpa using hr26
            clear hr26
            have kG0 := BGy.out.cell 0
            have kG1 := BGy.out.cell 1
            have fG0 := BGy.out.frozen 0
            have fG1 := BGy.out.frozen 1
            have lG := BGy.out.lt
            have B1 := Lib.hid (show Blk (y.setCell ⟨g, 0, none⟩ (.string ⟨#[84, 97, 97, 88]⟩)) g 60 #[.string ⟨#[84, 97, 97, 88]⟩, .slice AD m cD] from BGy.out.put 0 (.string ⟨#[84, 97, 97, 88]⟩))
            have M1 := Lib.hid (HOy.out.put (i := 0) BGy.out (fun q hq => by have := hOlt q hq; omega) (.string ⟨#[84, 97, 97, 88]⟩))
            have V1 := Lib.hid (VBy.out.kept (put_grown28 (w := y) g 0 (.string ⟨#[84, 97, 97, 88]⟩)) (VBy.out.ne_tag BGy.out))
            have T1 := Lib.hid (tape_put (i := 0) TPy.out (show w.heap.size ≤ g by omega) (by omega) (.string ⟨#[84, 97, 97, 88]⟩))
            have Ry1 := Lib.hid (Ry.out.setCell (p := ⟨g, 0, none⟩) (show w.heap.size ≤ g by omega) (.string ⟨#[84, 97, 97, 88]⟩))
            have hsy1 : Y.heap.size ≤ (y.setCell ⟨g, 0, none⟩ (.string ⟨#[84, 97, 97, 88]⟩)).heap.size := by simpa [World.setCell] using hsy
            go_upto_region 18 with fail
            generalize y.setCell ⟨g, 0, none⟩ (.string ⟨#[84, 97, 97, 88]⟩) = yq at *
            have hz_yq := Ry1.out.size
            clear kG0 kG1 fG0 fG1 lG BGy HOy VBy TPy Ry hz_y hsy
            have kG0 := B1.out.cell 0
            have kG1 := B1.out.cell 1
            have hOw : Hid (Off AD m (Value.slice AO k co).ownBlock) := Off.fresh HFR.out hOlt
            have hbW := below_alloc1 yq (.cells #[.string ⟨#[84, 97, 97, 88]⟩, .slice AD m cD] 60)
            go_wp2_with (at_builtin; refine wpList_append_h (vs := .slice AO k co) (vx := .slice (some ⟨_, 0, none⟩) 1 1) rfl _ _ 22 22 rfl rfl rfl (R := fun v w' => ∃ A8 c8, v = .slice A8 (k + 1) c8 ∧ MadeRow w' X0.heap.size bt A8 (k + 1) c8 (ts ++ [(⟨#[84, 97, 97, 88]⟩, _)]) ∧ Below X0.heap.size _ w') ((M1.out.move (grown_of_below hbW _) hX0).app (Blk.new _ _ _) (V1.out.stays hbW) hOw.out HOF.out (by omega) (by simp; omega) _) ?_; rintro v w8 ⟨A8, c8, rfl, hO, hb8⟩; have HO8 := Lib.hid hO; have HB8 := Lib.hid (hbW.mono (show X0.heap.size ≤ yq.heap.size by omega) |>.trans hb8); clear hO hb8)
            have R8 := Lib.hid (Ry1.out.trans (HB8.out.mono (by omega)))
            have TP8 := Lib.hid (show ∃ kt, Tape w.heap.size w8 bt l kt from ⟨_, tape_below T1.out HB8.out hX0⟩)
            have hs8 : X0.heap.size ≤ w8.heap.size := Nat.le_trans (by omega) HB8.out.size
            have HL8 := Lib.hid (few_snoc HL.out ⟨#[84, 97, 97, 88]⟩ _ (show List.length _ ≤ 32 by rw [V1.out.len]; omega))
            clear HB8 kG0 kG1 hbW
            go_wp2
            go_roundw
            case rel => exact ⟨j - 1, m5, k + 1, c8, A8, _, by congr 1; omega, rfl, rfl, by omega, hm53, TP8, HO8, HL8, R8.out, hs8⟩
            case measure => simp [intOf]; omega
          have z29 : (r == 29) = false := by simpa using hr29
          have z28 : (r == 28) = false := by simpa using hr28
          have z27 : (r == 27) = false := by simpa using hr27
          have z26 : (r == 26) = false := by simpa using hr26
          have kG0 := BGy.out.cell 0
          have kG1 := BGy.out.cell 1
          have hOw : Hid (Off AD m (Value.slice AO k co).ownBlock) := Off.fresh HFR.out hOlt
          have hbW := below_alloc1 y (.cells #[.string s, .slice AD m cD] 60)
          go_wp2_with (at_builtin; refine wpList_append_h (vs := .slice AO k co) (vx := .slice (some ⟨_, 0, none⟩) 1 1) rfl _ _ 22 22 rfl rfl rfl (R := fun v w' => ∃ A8 c8, v = .slice A8 (k + 1) c8 ∧ MadeRow w' X0.heap.size bt A8 (k + 1) c8 (ts ++ [(s, _)]) ∧ Below X0.heap.size _ w') ((HOy.out.move (grown_of_below hbW _) hX0).app (Blk.new _ _ _) (VBy.out.stays hbW) hOw.out HOF.out (by omega) (by simp; omega) _) ?_; rintro v w8 ⟨A8, c8, rfl, hO, hb8⟩; have HO8 := Lib.hid hO; have HB8 := Lib.hid (hbW.mono (show X0.heap.size ≤ y.heap.size by omega) |>.trans hb8); clear hO hb8)
          have R8 := Lib.hid (Ry.out.trans (HB8.out.mono (by omega)))
          have TP8 := Lib.hid (show ∃ kt, Tape w.heap.size w8 bt l kt from ⟨_, tape_below TPy.out HB8.out hX0⟩)
          have hs8 : X0.heap.size ≤ w8.heap.size := Nat.le_trans (by omega) HB8.out.size
          have HL8 := Lib.hid (few_snoc HL.out s _ (show List.length _ ≤ 32 by rw [VBy.out.len]; omega))
          clear HB8 kG0 kG1 hbW
          go_wp2
          go_roundw
          case rel => exact ⟨j - 1, m5, k + 1, c8, A8, _, by congr 1; omega, rfl, rfl, by omega, hm53, TP8, HO8, HL8, R8.out, hs8⟩
          case measure => simp [intOf]; omega
        case hst =>
          rintro L a' w' i hsz0 ⟨x29, x30, x31, x33, x34, x36, x37, x38, x39, x7, rfl, hM⟩ hi
          have hlt : i < 21 := ready_lt hi
          have hpre := hM.pre
          have n20 : i ≠ 20 → L.getD 20 false = false := fun hne => by
            cases q : L.getD 20 false with
            | false => rfl
            | true => exact (not_ready hi (hM.all q i (by omega))).elim
          obtain rfl | rfl | rfl | rfl | rfl | rfl | rfl | rfl | rfl | rfl | rfl | rfl | rfl | rfl | rfl | rfl | rfl | rfl | rfl | rfl | rfl : i = 0 ∨ i = 1 ∨ i = 2 ∨ i = 3 ∨ i = 4 ∨ i = 5 ∨ i = 6 ∨ i = 7 ∨ i = 8 ∨ i = 9 ∨ i = 10 ∨ i = 11 ∨ i = 12 ∨ i = 13 ∨ i = 14 ∨ i = 15 ∨ i = 16 ∨ i = 17 ∨ i = 18 ∨ i = 19 ∨ i = 20 := by omega
          · -- 0
            exact (not_ready hi (hpre 0 (by decide))).elim
          · -- 1
            exact (not_ready hi (hpre 1 (by decide))).elim
          · -- 2
            exact (not_ready hi (hpre 2 (by decide))).elim
          · -- 3
            exact (not_ready hi (hpre 3 (by decide))).elim
          · -- 4
            exact (not_ready hi (hpre 4 (by decide))).elim
          · -- 5
            exact (not_ready hi (hpre 5 (by decide))).elim
          · -- 6
            exact (not_ready hi (hpre 6 (by decide))).elim
          · -- 7
            exact (not_ready hi (hpre 7 (by decide))).elim
          · -- 8
            replace n20 := n20 (by decide)
            simp only [Act.put, List.setIfInBounds_toArray, List.set_cons_zero, List.set_cons_succ]
            refine zOpNew (j := 8) (d := some 29) (T := 5) (z := #[.int .u8 (b1 : Int), .int .u8 (b2 : Int), .int .u8 88]) (val := fun g => .slice (some ⟨g, 0, none⟩) 3 3) rfl rfl (by rfl) (by go_simp; try with_reducible rfl) (fun g w2 g_ge g_lt BL hb => ?_)
            have mv := grown_of_below hb (some bt)
            have hne : Off (some ⟨g, 0, none⟩) 3 (some bt) := fun a ha _ e => by cases ha; injection e with e; simp only [] at e; have := hM.siz; omega
            exact ⟨.slice (some ⟨g, 0, none⟩) 3 3, x30, x31, x33, x34, x36, x37, x38, x39, x7, (by simp only [Act.put, List.setIfInBounds_toArray, List.set_cons_zero, List.set_cons_succ]; try rfl), ⟨(fun j hj => done_keep (hpre j hj)), (by obtain ⟨kt, h⟩ := hM.tape; exact ⟨kt, h.stays hb⟩), (hM.row.move mv hX0), (hM.bel.trans (hb.mono hM.bel.size)), (Nat.le_trans hM.siz hb.size), (fun _ _ => ⟨g, rfl, bytes_blk3 BL hb1v hb2v, hne⟩), (fun _ hq => hM.d9 n20 ((done_set hq).resolve_left (by decide))), (fun _ hq => hM.d10 n20 ((done_set hq).resolve_left (by decide))), (fun _ hq => hM.d12 n20 ((done_set hq).resolve_left (by decide))), (fun _ hq => D13.kept mv (hM.d13 n20 ((done_set hq).resolve_left (by decide)))), (fun _ hq => hM.d15 n20 ((done_set hq).resolve_left (by decide))), (fun _ hq => hM.d16 n20 ((done_set hq).resolve_left (by decide))), (fun _ hq => D17.kept mv (hM.d17 n20 ((done_set hq).resolve_left (by decide)))), (fun _ hq => D18.kept mv (hM.d18 n20 ((done_set hq).resolve_left (by decide)))), (fun _ hq => D19.kept mv hbY (hM.d19 n20 ((done_set hq).resolve_left (by decide)))), (fun hq => absurd ((done_set hq).resolve_left (by decide)) (by rw [n20]; decide)), (fun hq => absurd ((done_set hq).resolve_left (by decide)) (by rw [n20]; decide))⟩⟩
          · -- 9
            replace n20 := n20 (by decide)
            have p8 := ready_dep hi (k := 8) (by kernel_rfl)
            obtain ⟨g, rfl, VL, _⟩ := hM.d8 n20 p8
            have ecv := conv_str (P := Try.prog) VL 28 9 5 Try.underlying28 Try.underlying5 Try.underlying9
            simp only [Act.put, List.setIfInBounds_toArray, List.set_cons_zero, List.set_cons_succ]
            refine zOp (j := 9) (d := some 30) (v := .string (strOf [UInt8.ofNat b1, UInt8.ofNat b2, 88])) rfl rfl (by rfl) (by go_simp; try with_reducible rfl) ?_
            exact ⟨.slice (some ⟨g, 0, none⟩) 3 3, .string (strOf [UInt8.ofNat b1, UInt8.ofNat b2, 88]), x31, x33, x34, x36, x37, x38, x39, x7, (by simp only [Act.put, List.setIfInBounds_toArray, List.set_cons_zero, List.set_cons_succ]; try rfl), ⟨(fun j hj => done_keep (hpre j hj)), hM.tape, hM.row, hM.bel, hM.siz, (fun _ hq => hM.d8 n20 ((done_set hq).resolve_left (by decide))), (fun _ _ => ⟨_, rfl, (show (3 : Nat) ≤ 100 by decide)⟩), (fun _ hq => hM.d10 n20 ((done_set hq).resolve_left (by decide))), (fun _ hq => hM.d12 n20 ((done_set hq).resolve_left (by decide))), (fun _ hq => hM.d13 n20 ((done_set hq).resolve_left (by decide))), (fun _ hq => hM.d15 n20 ((done_set hq).resolve_left (by decide))), (fun _ hq => hM.d16 n20 ((done_set hq).resolve_left (by decide))), (fun _ hq => hM.d17 n20 ((done_set hq).resolve_left (by decide))), (fun _ hq => hM.d18 n20 ((done_set hq).resolve_left (by decide))), (fun _ hq => hM.d19 n20 ((done_set hq).resolve_left (by decide))), (fun hq => absurd ((done_set hq).resolve_left (by decide)) (by rw [n20]; decide)), (fun hq => absurd ((done_set hq).resolve_left (by decide)) (by rw [n20]; decide))⟩⟩
          · -- 10
            replace n20 := n20 (by decide)
            have p9 := ready_dep hi (k := 9) (by kernel_rfl)
            obtain ⟨s, rfl, hs100⟩ := hM.d9 n20 p9
            have hs63 : ¬ (9223372036854775807 < 1 + s.size) := by omega
            simp only [Act.put, List.setIfInBounds_toArray, List.set_cons_zero, List.set_cons_succ]
            refine zOp (j := 10) (d := some 31) (v := ?v10) (w2 := w') rfl rfl (by rfl) ?r10 ?_
            rotate_left 1
            · go_simp; try with_reducible rfl
            exact ⟨x29, .string s, _, x33, x34, x36, x37, x38, x39, x7, (by simp only [Act.put, List.setIfInBounds_toArray, List.set_cons_zero, List.set_cons_succ]; try rfl), ⟨(fun j hj => done_keep (hpre j hj)), hM.tape, hM.row, hM.bel, hM.siz, (fun _ hq => hM.d8 n20 ((done_set hq).resolve_left (by decide))), (fun _ hq => hM.d9 n20 ((done_set hq).resolve_left (by decide))), (fun _ _ => ⟨_, rfl⟩), (fun _ hq => hM.d12 n20 ((done_set hq).resolve_left (by decide))), (fun _ hq => hM.d13 n20 ((done_set hq).resolve_left (by decide))), (fun _ hq => hM.d15 n20 ((done_set hq).resolve_left (by decide))), (fun _ hq => hM.d16 n20 ((done_set hq).resolve_left (by decide))), (fun _ hq => hM.d17 n20 ((done_set hq).resolve_left (by decide))), (fun _ hq => hM.d18 n20 ((done_set hq).resolve_left (by decide))), (fun _ hq => hM.d19 n20 ((done_set hq).resolve_left (by decide))), (fun hq => absurd ((done_set hq).resolve_left (by decide)) (by rw [n20]; decide)), (fun hq => absurd ((done_set hq).resolve_left (by decide)) (by rw [n20]; decide))⟩⟩
          · -- 11
            exact (not_ready hi (hpre 11 (by decide))).elim
          · -- 12
            replace n20 := n20 (by decide)
            obtain ⟨kt, ht⟩ := hM.tape
            simp only [Act.put, List.setIfInBounds_toArray, List.set_cons_zero, List.set_cons_succ]
            refine zOpCall (j := 12) (d := some 33) (R := fun v w2 => (∃ r : Int, v = .int .i64 r) ∧ (∃ kt, Tape w.heap.size w2 bt l kt) ∧ World.grownBy w' w2 (some bt)) rfl rfl (by rfl) (by go_simp) ((int_any _ bt l kt 99 (by decide) (by decide) _ ht).mono fun e q hq => by obtain ⟨k9, h1, h2, h3⟩ := hq; exact ⟨_, h1, ⟨_, rfl⟩, ⟨_, h2⟩, h3⟩) (fun v w2 hR => ?_)
            obtain ⟨⟨r, rfl⟩, ht2, mv⟩ := hR
            exact ⟨x29, x30, x31, .int .i64 r, x34, x36, x37, x38, x39, x7, (by simp only [Act.put, List.setIfInBounds_toArray, List.set_cons_zero, List.set_cons_succ]; try rfl), ⟨(fun j hj => done_keep (hpre j hj)), ht2, (hM.row.move mv hX0), (hM.bel.trans (below_only mv hbge hM.bel.size)), (Nat.le_trans hM.siz mv.size), (fun _ hq => D8.kept mv (hM.d8 n20 ((done_set hq).resolve_left (by decide)))), (fun _ hq => hM.d9 n20 ((done_set hq).resolve_left (by decide))), (fun _ hq => hM.d10 n20 ((done_set hq).resolve_left (by decide))), (fun _ _ => ⟨r, rfl⟩), (fun _ hq => D13.kept mv (hM.d13 n20 ((done_set hq).resolve_left (by decide)))), (fun _ hq => hM.d15 n20 ((done_set hq).resolve_left (by decide))), (fun _ hq => hM.d16 n20 ((done_set hq).resolve_left (by decide))), (fun _ hq => D17.kept mv (hM.d17 n20 ((done_set hq).resolve_left (by decide)))), (fun _ hq => D18.kept mv (hM.d18 n20 ((done_set hq).resolve_left (by decide)))), (fun _ hq => D19.kept mv hbY (hM.d19 n20 ((done_set hq).resolve_left (by decide)))), (fun hq => absurd ((done_set hq).resolve_left (by decide)) (by rw [n20]; decide)), (fun hq => absurd ((done_set hq).resolve_left (by decide)) (by rw [n20]; decide))⟩⟩
          · -- 13
            replace n20 := n20 (by decide)
            have p12 := ready_dep hi (k := 12) (by kernel_rfl)
            obtain ⟨r, rfl⟩ := hM.d12 n20 p12
            simp only [Act.put, List.setIfInBounds_toArray, List.set_cons_zero, List.set_cons_succ]
            refine zOpCall (j := 13) (d := some 34) (R := fun v w2 => ∃ A c lx, v = .slice A 32 c ∧ Bytes w2 A 32 c lx ∧ Fresh w'.heap.size A ∧ Below w'.heap.size w' w2) rfl rfl (by rfl) (by go_simp) ((random_any r 32 (by decide) _).mono fun e q hq => by obtain ⟨A, c, h1, h2, h3, h4⟩ := hq; exact ⟨_, h1, A, c, _, rfl, h2, h3, h4⟩) (fun v w2 hR => ?_)
            obtain ⟨AR, cR, lR, rfl, VR, FR, hb⟩ := hR
            have mv := grown_of_below hb (some bt)
            have hne : Off AR 32 (some bt) := Off.fresh FR (fun q hq => by injection hq with hq; have := hM.siz; omega)
            exact ⟨x29, x30, x31, .int .i64 r, .slice AR 32 cR, x36, x37, x38, x39, x7, (by simp only [Act.put, List.setIfInBounds_toArray, List.set_cons_zero, List.set_cons_succ]; try rfl), ⟨(fun j hj => done_keep (hpre j hj)), (by obtain ⟨kt, h⟩ := hM.tape; exact ⟨kt, h.stays hb⟩), (hM.row.move mv hX0), (hM.bel.trans (hb.mono hM.bel.size)), (Nat.le_trans hM.siz hb.size), (fun _ hq => D8.kept mv (hM.d8 n20 ((done_set hq).resolve_left (by decide)))), (fun _ hq => hM.d9 n20 ((done_set hq).resolve_left (by decide))), (fun _ hq => hM.d10 n20 ((done_set hq).resolve_left (by decide))), (fun _ hq => hM.d12 n20 ((done_set hq).resolve_left (by decide))), (fun _ _ => ⟨AR, cR, lR, rfl, VR, hne, FR.more hM.siz⟩), (fun _ hq => hM.d15 n20 ((done_set hq).resolve_left (by decide))), (fun _ hq => hM.d16 n20 ((done_set hq).resolve_left (by decide))), (fun _ hq => D17.kept mv (hM.d17 n20 ((done_set hq).resolve_left (by decide)))), (fun _ hq => D18.kept mv (hM.d18 n20 ((done_set hq).resolve_left (by decide)))), (fun _ hq => D19.kept mv hbY (hM.d19 n20 ((done_set hq).resolve_left (by decide)))), (fun hq => absurd ((done_set hq).resolve_left (by decide)) (by rw [n20]; decide)), (fun hq => absurd ((done_set hq).resolve_left (by decide)) (by rw [n20]; decide))⟩⟩
          · -- 14
            exact (not_ready hi (hpre 14 (by decide))).elim
          · -- 15
            replace n20 := n20 (by decide)
            obtain ⟨kt, ht⟩ := hM.tape
            simp only [Act.put, List.setIfInBounds_toArray, List.set_cons_zero, List.set_cons_succ]
            refine zOpCall (j := 15) (d := some 36) (R := fun v w2 => (∃ r : Nat, v = .int .i64 (r : Int) ∧ r ≤ 8) ∧ (∃ kt, Tape w.heap.size w2 bt l kt) ∧ World.grownBy w' w2 (some bt)) rfl rfl (by rfl) (by go_simp) ((int_any _ bt l kt 9 (by decide) (by decide) _ ht).mono fun e q hq => by obtain ⟨k9, h1, h2, h3⟩ := hq; exact ⟨_, h1, ⟨(tapeAt l kt % 9).toNat, by congr 1; omega, by omega⟩, ⟨_, h2⟩, h3⟩) (fun v w2 hR => ?_)
            obtain ⟨⟨r, rfl, hr8⟩, ht2, mv⟩ := hR
            exact ⟨x29, x30, x31, x33, x34, .int .i64 (r : Int), x37, x38, x39, x7, (by simp only [Act.put, List.setIfInBounds_toArray, List.set_cons_zero, List.set_cons_succ]; try rfl), ⟨(fun j hj => done_keep (hpre j hj)), ht2, (hM.row.move mv hX0), (hM.bel.trans (below_only mv hbge hM.bel.size)), (Nat.le_trans hM.siz mv.size), (fun _ hq => D8.kept mv (hM.d8 n20 ((done_set hq).resolve_left (by decide)))), (fun _ hq => hM.d9 n20 ((done_set hq).resolve_left (by decide))), (fun _ hq => hM.d10 n20 ((done_set hq).resolve_left (by decide))), (fun _ hq => hM.d12 n20 ((done_set hq).resolve_left (by decide))), (fun _ hq => D13.kept mv (hM.d13 n20 ((done_set hq).resolve_left (by decide)))), (fun _ _ => ⟨r, rfl, hr8⟩), (fun _ hq => hM.d16 n20 ((done_set hq).resolve_left (by decide))), (fun _ hq => D17.kept mv (hM.d17 n20 ((done_set hq).resolve_left (by decide)))), (fun _ hq => D18.kept mv (hM.d18 n20 ((done_set hq).resolve_left (by decide)))), (fun _ hq => D19.kept mv hbY (hM.d19 n20 ((done_set hq).resolve_left (by decide)))), (fun hq => absurd ((done_set hq).resolve_left (by decide)) (by rw [n20]; decide)), (fun hq => absurd ((done_set hq).resolve_left (by decide)) (by rw [n20]; decide))⟩⟩
          · -- 16
            replace n20 := n20 (by decide)
            have p15 := ready_dep hi (k := 15) (by kernel_rfl)
            obtain ⟨r, rfl, hr8⟩ := hM.d15 n20 p15
            obtain ⟨r4, hr4⟩ : ∃ r4 : Nat, (4 : Int) * (r : Int) = (r4 : Int) := ⟨4 * r, by omega⟩
            have hr32 : r4 ≤ 32 := by omega
            have hr4w : IntKind.i64.wrap (r4 : Int) = (r4 : Int) := IntWalk.i64_in _ (by omega)
            simp only [Act.put, List.setIfInBounds_toArray, List.set_cons_zero, List.set_cons_succ]
            refine zOp (j := 16) (d := some 37) (v := .int .i64 (r4 : Int)) rfl rfl (by rfl) (by go_simp; try with_reducible rfl) ?_
            exact ⟨x29, x30, x31, x33, x34, .int .i64 (r : Int), .int .i64 (r4 : Int), x38, x39, x7, (by simp only [Act.put, List.setIfInBounds_toArray, List.set_cons_zero, List.set_cons_succ]; try rfl), ⟨(fun j hj => done_keep (hpre j hj)), hM.tape, hM.row, hM.bel, hM.siz, (fun _ hq => hM.d8 n20 ((done_set hq).resolve_left (by decide))), (fun _ hq => hM.d9 n20 ((done_set hq).resolve_left (by decide))), (fun _ hq => hM.d10 n20 ((done_set hq).resolve_left (by decide))), (fun _ hq => hM.d12 n20 ((done_set hq).resolve_left (by decide))), (fun _ hq => hM.d13 n20 ((done_set hq).resolve_left (by decide))), (fun _ hq => hM.d15 n20 ((done_set hq).resolve_left (by decide))), (fun _ _ => ⟨r4, rfl, hr32⟩), (fun _ hq => hM.d17 n20 ((done_set hq).resolve_left (by decide))), (fun _ hq => hM.d18 n20 ((done_set hq).resolve_left (by decide))), (fun _ hq => hM.d19 n20 ((done_set hq).resolve_left (by decide))), (fun hq => absurd ((done_set hq).resolve_left (by decide)) (by rw [n20]; decide)), (fun hq => absurd ((done_set hq).resolve_left (by decide)) (by rw [n20]; decide))⟩⟩
          · -- 17
            replace n20 := n20 (by decide)
            have p13 := ready_dep hi (k := 13) (by kernel_rfl)
            have p16 := ready_dep hi (k := 16) (by kernel_rfl)
            obtain ⟨AR, cR, lR, rfl, VR, OR, FR⟩ := hM.d13 n20 p13
            obtain ⟨r4, rfl, hr32⟩ := hM.d16 n20 p16
            have hcR := VR.le
            have hcR2 := VR.cap
            have hr4c : (r4 : Int) ≤ (cR : Int) := by omega
            have hr40 : (0 : Int) ≤ (r4 : Int) := by omega
            simp only [Act.put, List.setIfInBounds_toArray, List.set_cons_zero, List.set_cons_succ]
            refine zOp (j := 17) (d := some 38) (v := .slice AR r4 cR) rfl rfl (by rfl) (by go_simp; try with_reducible rfl) ?_
            exact ⟨x29, x30, x31, x33, .slice AR 32 cR, x36, .int .i64 (r4 : Int), .slice AR r4 cR, x39, x7, (by simp only [Act.put, List.setIfInBounds_toArray, List.set_cons_zero, List.set_cons_succ]; try rfl), ⟨(fun j hj => done_keep (hpre j hj)), hM.tape, hM.row, hM.bel, hM.siz, (fun _ hq => hM.d8 n20 ((done_set hq).resolve_left (by decide))), (fun _ hq => hM.d9 n20 ((done_set hq).resolve_left (by decide))), (fun _ hq => hM.d10 n20 ((done_set hq).resolve_left (by decide))), (fun _ hq => hM.d12 n20 ((done_set hq).resolve_left (by decide))), (fun _ hq => hM.d13 n20 ((done_set hq).resolve_left (by decide))), (fun _ hq => hM.d15 n20 ((done_set hq).resolve_left (by decide))), (fun _ hq => hM.d16 n20 ((done_set hq).resolve_left (by decide))), (fun _ _ => ⟨AR, r4, cR, _, rfl, hr32, VR.cutTo r4 hr32, (fun a ha hn => OR a ha (by omega)), FR⟩), (fun _ hq => hM.d18 n20 ((done_set hq).resolve_left (by decide))), (fun _ hq => hM.d19 n20 ((done_set hq).resolve_left (by decide))), (fun hq => absurd ((done_set hq).resolve_left (by decide)) (by rw [n20]; decide)), (fun hq => absurd ((done_set hq).resolve_left (by decide)) (by rw [n20]; decide))⟩⟩
          · -- 18
            replace n20 := n20 (by decide)
            have p10 := ready_dep hi (k := 10) (by kernel_rfl)
            have p17 := ready_dep hi (k := 17) (by kernel_rfl)
            obtain ⟨s, rfl⟩ := hM.d10 n20 p10
            obtain ⟨AR, r4, cR, lR, rfl, hr32, VR, OR, FR⟩ := hM.d17 n20 p17
            simp only [Act.put, List.setIfInBounds_toArray, List.set_cons_zero, List.set_cons_succ]
            refine zOp (j := 18) (d := some 39) (v := .agg #[.string s, .slice AR r4 cR]) rfl rfl (by rfl) (by go_simp; try with_reducible rfl) ?_
            exact ⟨x29, x30, .string s, x33, x34, x36, x37, .slice AR r4 cR, .agg #[.string s, .slice AR r4 cR], x7, (by simp only [Act.put, List.setIfInBounds_toArray, List.set_cons_zero, List.set_cons_succ]; try rfl), ⟨(fun j hj => done_keep (hpre j hj)), hM.tape, hM.row, hM.bel, hM.siz, (fun _ hq => hM.d8 n20 ((done_set hq).resolve_left (by decide))), (fun _ hq => hM.d9 n20 ((done_set hq).resolve_left (by decide))), (fun _ hq => hM.d10 n20 ((done_set hq).resolve_left (by decide))), (fun _ hq => hM.d12 n20 ((done_set hq).resolve_left (by decide))), (fun _ hq => hM.d13 n20 ((done_set hq).resolve_left (by decide))), (fun _ hq => hM.d15 n20 ((done_set hq).resolve_left (by decide))), (fun _ hq => hM.d16 n20 ((done_set hq).resolve_left (by decide))), (fun _ hq => hM.d17 n20 ((done_set hq).resolve_left (by decide))), (fun _ _ => ⟨s, AR, r4, cR, lR, rfl, hr32, VR, OR, FR⟩), (fun _ hq => hM.d19 n20 ((done_set hq).resolve_left (by decide))), (fun hq => absurd ((done_set hq).resolve_left (by decide)) (by rw [n20]; decide)), (fun hq => absurd ((done_set hq).resolve_left (by decide)) (by rw [n20]; decide))⟩⟩
          · -- 19
            replace n20 := n20 (by decide)
            simp only [Act.put, List.setIfInBounds_toArray, List.set_cons_zero, List.set_cons_succ]
            refine zOpNew (j := 19) (d := some 7) (T := 60) (z := #[.string ByteArray.empty, .slice none 0 0]) (val := fun g => .pointer (some ⟨g, 0, none⟩)) rfl rfl (by rfl) (by go_simp; first | done | with_reducible rfl | rfl) (fun g w2 g_ge g_lt BL hb => ?_)
            have mv := grown_of_below hb (some bt)
            exact ⟨x29, x30, x31, x33, x34, x36, x37, x38, x39, .pointer (some ⟨g, 0, none⟩), (by simp only [Act.put, List.setIfInBounds_toArray, List.set_cons_zero, List.set_cons_succ]; try rfl), ⟨(fun j hj => done_keep (hpre j hj)), (by obtain ⟨kt, h⟩ := hM.tape; exact ⟨kt, h.stays hb⟩), (hM.row.move mv hX0), (hM.bel.trans (hb.mono hM.bel.size)), (Nat.le_trans hM.siz hb.size), (fun _ hq => D8.kept mv (hM.d8 n20 ((done_set hq).resolve_left (by decide)))), (fun _ hq => hM.d9 n20 ((done_set hq).resolve_left (by decide))), (fun _ hq => hM.d10 n20 ((done_set hq).resolve_left (by decide))), (fun _ hq => hM.d12 n20 ((done_set hq).resolve_left (by decide))), (fun _ hq => D13.kept mv (hM.d13 n20 ((done_set hq).resolve_left (by decide)))), (fun _ hq => hM.d15 n20 ((done_set hq).resolve_left (by decide))), (fun _ hq => hM.d16 n20 ((done_set hq).resolve_left (by decide))), (fun _ hq => D17.kept mv (hM.d17 n20 ((done_set hq).resolve_left (by decide)))), (fun _ hq => D18.kept mv (hM.d18 n20 ((done_set hq).resolve_left (by decide)))), (fun _ _ => ⟨g, rfl, BL, Nat.le_trans hM.siz g_ge⟩), (fun hq => absurd ((done_set hq).resolve_left (by decide)) (by rw [n20]; decide)), (fun hq => absurd ((done_set hq).resolve_left (by decide)) (by rw [n20]; decide))⟩⟩
          · -- 20
            have p0 := ready_dep hi (k := 0) (by kernel_rfl)
            have p1 := ready_dep hi (k := 1) (by kernel_rfl)
            have p2 := ready_dep hi (k := 2) (by kernel_rfl)
            have p3 := ready_dep hi (k := 3) (by kernel_rfl)
            have p4 := ready_dep hi (k := 4) (by kernel_rfl)
            have p5 := ready_dep hi (k := 5) (by kernel_rfl)
            have p6 := ready_dep hi (k := 6) (by kernel_rfl)
            have p7 := ready_dep hi (k := 7) (by kernel_rfl)
            have p8 := ready_dep hi (k := 8) (by kernel_rfl)
            have p9 := ready_dep hi (k := 9) (by kernel_rfl)
            have p10 := ready_dep hi (k := 10) (by kernel_rfl)
            have p11 := ready_dep hi (k := 11) (by kernel_rfl)
            have p12 := ready_dep hi (k := 12) (by kernel_rfl)
            have p13 := ready_dep hi (k := 13) (by kernel_rfl)
            have p14 := ready_dep hi (k := 14) (by kernel_rfl)
            have p15 := ready_dep hi (k := 15) (by kernel_rfl)
            have p16 := ready_dep hi (k := 16) (by kernel_rfl)
            have p17 := ready_dep hi (k := 17) (by kernel_rfl)
            have p18 := ready_dep hi (k := 18) (by kernel_rfl)
            have p19 := ready_dep hi (k := 19) (by kernel_rfl)
            clear n20
            have n20 : L.getD 20 false = false := by
              cases q : L.getD 20 false with
              | false => rfl
              | true => exact (not_ready hi q).elim
            obtain ⟨s, AR, r4, cR, lR, rfl, hr32, VR, OR, FR⟩ := hM.d18 n20 p18
            obtain ⟨g, rfl, BG, hg⟩ := hM.d19 n20 p19
            have k0 := BG.cell 0
            have k1 := BG.cell 1
            have f0 := BG.frozen 0
            have f1 := BG.frozen 1
            simp only [Act.put, List.setIfInBounds_toArray, List.set_cons_zero, List.set_cons_succ]
            refine zOpStore (j := 20) (w2 := (World.setCell w' ⟨g, 0, none⟩ (.string s)).setCell ⟨g, 1, none⟩ (.slice AR r4 cR)) rfl rfl (by rfl) (by go_simp; try with_reducible rfl) ?_
            have hbg : bt < g := by omega
            have hne : ∀ q, (Value.slice AO k co).ownBlock = some q → q ≠ g := fun q hq => by have := hOlt q hq; omega
            have B1 := BG.put 0 (.string s)
            have B2 := B1.put 1 (.slice AR r4 cR)
            have M1 := hM.row.put (i := 0) BG hne (.string s)
            have M2 := M1.put (i := 1) (show Blk _ g _ #[.string s, .slice none 0 0] from B1) hne (.slice AR r4 cR)
            have V1 := VR.kept (put_grown28 (w := w') g 0 (.string s)) (VR.ne_tag BG)
            have V2 := V1.kept (put_grown28 g 1 (.slice AR r4 cR)) (V1.ne_tag (show Blk _ g _ #[.string s, .slice none 0 0] from B1))
            exact ⟨x29, x30, x31, x33, x34, x36, x37, x38, .agg #[.string s, .slice AR r4 cR], .pointer (some ⟨g, 0, none⟩), (by simp only [Act.put, List.setIfInBounds_toArray, List.set_cons_zero, List.set_cons_succ]; try rfl), ⟨(fun j hj => done_keep (hpre j hj)), (by obtain ⟨kt, h⟩ := hM.tape; exact ⟨kt, tape_put (tape_put h (by omega) (by omega) _) (by omega) (by omega) _⟩), M2, (hM.bel.setCell (p := ⟨g, 0, none⟩) (by simp only []; omega) _).setCell (p := ⟨g, 1, none⟩) (by simp only []; omega) _, (by have := hM.siz; simpa [World.setCell] using this), (fun hq _ => absurd hq (by rw [set20 hsz0]; decide)), (fun hq _ => absurd hq (by rw [set20 hsz0]; decide)), (fun hq _ => absurd hq (by rw [set20 hsz0]; decide)), (fun hq _ => absurd hq (by rw [set20 hsz0]; decide)), (fun hq _ => absurd hq (by rw [set20 hsz0]; decide)), (fun hq _ => absurd hq (by rw [set20 hsz0]; decide)), (fun hq _ => absurd hq (by rw [set20 hsz0]; decide)), (fun hq _ => absurd hq (by rw [set20 hsz0]; decide)), (fun hq _ => absurd hq (by rw [set20 hsz0]; decide)), (fun hq _ => absurd hq (by rw [set20 hsz0]; decide)), (fun _ => ⟨g, s, AR, r4, cR, lR, rfl, B2, hg, hr32, V2, OR, FR⟩), (fun _ => (fun j hj => done_keep (by rcases (show j = 0 ∨ j = 1 ∨ j = 2 ∨ j = 3 ∨ j = 4 ∨ j = 5 ∨ j = 6 ∨ j = 7 ∨ j = 8 ∨ j = 9 ∨ j = 10 ∨ j = 11 ∨ j = 12 ∨ j = 13 ∨ j = 14 ∨ j = 15 ∨ j = 16 ∨ j = 17 ∨ j = 18 ∨ j = 19 by omega) with rfl | rfl | rfl | rfl | rfl | rfl | rfl | rfl | rfl | rfl | rfl | rfl | rfl | rfl | rfl | rfl | rfl | rfl | rfl | rfl <;> assumption)))⟩⟩
    · have hj0 : ¬ (0 : Int) < (j : Int) := by omega
      go_wp2
      go_ret
      exact ⟨AO, k, co, ts, rfl, HO.out.tags, HL.out, by omega, RW.out⟩
end Go.Proofs.Ytbjmojajhkhekaa
