/- Readings of slices, and of bytes; how they last. Plain words over the model, no program in sight. -/
import Derived.Test.YtfkckokaclkjnaaProg
import Derived.KernelRfl
import Derived.WalkKit
import Derived.WalkSpells
import Derived.WalkLawsBesides
import Derived.Lib.Hide
import Derived.Handy
import Derived.IntWalk
import Derived.Lib.ConvBytes
import Derived.Laws.BytesArg
namespace Go.Proofs.Ytfkckokaclkjnaa
open Go.RowKit

/-- The slice '.slice A n c', of elements of 'size' cells, reads as the cells xs in the world w. -/
def Rd (w : World) (size : Nat) (A : Option Addr) (n c : Nat) (xs : List Value) : Prop :=
  xs.length = n * size ∧ n ≤ c ∧ c ≤ maxLen ∧ ∀ i u, xs[i]? = some u → ∃ b off, A = some ⟨b, off, none⟩ ∧ w.cell? ⟨b, off + i, none⟩ = some u

theorem cell_stays {w w' : World} (h : Below w.heap.size w w') {p : Addr} {u : Value} (hc : w.cell? p = some u) : w'.cell? p = some u := by
  rw [h.cell (World.block_lt_of_cell? w p hc)]; exact hc

theorem Rd.stays {w w' : World} {size : Nat} {A : Option Addr} {n c : Nat} {xs : List Value} (h : Rd w size A n c xs) (hb : Below w.heap.size w w') : Rd w' size A n c xs :=
  ⟨h.1, h.2.1, h.2.2.1, fun i u hu => by
    obtain ⟨b, off, e, hc⟩ := h.2.2.2 i u hu
    exact ⟨b, off, e, cell_stays hb hc⟩⟩

theorem Rd.nil (w : World) (size c : Nat) (hc : c ≤ maxLen) (A : Option Addr) : Rd w size A 0 c [] := ⟨by simp, Nat.zero_le _, hc, fun i u hu => by simp at hu⟩

theorem add_off (b off k : Nat) : (⟨b, off, none⟩ : Addr).add k = ⟨b, off + k, none⟩ := by unfold Addr.add; split <;> simp_all

/-- A cut 's[lo:hi]' as the model spells its address. -/
theorem Rd.cut {w : World} {size : Nat} {A : Option Addr} {n c : Nat} {xs : List Value} (h : Rd w size A n c xs) (lo hi : Nat) (h1 : lo ≤ hi) (h2 : hi ≤ n) :
    Rd w size (if c = lo then A else A.map (·.add (lo * size))) (hi - lo) (c - lo) ((xs.drop (lo * size)).take ((hi - lo) * size)) := by
  obtain ⟨hl, hc, hm, hx⟩ := h
  refine ⟨?_, by omega, by omega, fun i u hu => ?_⟩
  · rw [List.length_take, List.length_drop, hl, ← Nat.sub_mul]
    exact Nat.min_eq_left (Nat.mul_le_mul_right _ (by omega))
  · rw [List.getElem?_take] at hu
    split at hu
    · rename_i hi'
      rw [List.getElem?_drop] at hu
      obtain ⟨b, off, rfl, hcell⟩ := hx _ u hu
      have hlo : lo < hi := by
        rcases Nat.lt_or_ge lo hi with h | h
        · exact h
        · rw [show hi - lo = 0 by omega] at hi'; omega
      rw [if_neg (by omega)]
      refine ⟨b, off + lo * size, by simp [add_off], ?_⟩
      rw [Nat.add_assoc]; exact hcell
    · cases hu

/-- The i-th string, the i-th byte: plain words that the walk's simp leaves as they stand. -/
def strAt (l : List ByteArray) (i : Nat) : ByteArray := l.getD i ByteArray.empty
def byteAt (l : List UInt8) (i : Nat) : Nat := (l.getD i 0).toNat
theorem byteAt_lt (l : List UInt8) (i : Nat) : byteAt l i < 256 := UInt8.toNat_lt _
theorem strAt_map {l : List ByteArray} {i : Nat} (h : i < l.length) : (l.map Value.string)[i]? = some (.string (strAt l i)) := by simp [strAt, h, List.getD]
/-- The cell of a byte. -/
def byteV (x : UInt8) : Value := .int .u8 x.toNat
theorem byteAt_map {l : List UInt8} {i : Nat} (h : i < l.length) : (l.map byteV)[i]? = some (.int .u8 (byteAt l i)) := by simp [byteAt, byteV, h, List.getD]

/-- '.slice A n c' reads as the bytes l. -/
def Bytes (w : World) (A : Option Addr) (n c : Nat) (l : List UInt8) : Prop := Rd w 1 A n c (l.map byteV)
section
variable {w w' : World} {A : Option Addr} {n c : Nat} {l : List UInt8}
theorem Bytes.stays (h : Bytes w A n c l) (hb : Below w.heap.size w w') : Bytes w' A n c l := Rd.stays h hb
theorem Bytes.len (h : Bytes w A n c l) : l.length = n := by have := h.1; simpa using this
theorem Bytes.le (h : Bytes w A n c l) : n ≤ c := h.2.1
theorem Bytes.cap (h : Bytes w A n c l) : c ≤ 9223372036854775807 := by have := h.2.2.1; unfold maxLen at this; omega
theorem Bytes.at_ (h : Bytes w A n c l) {i : Nat} (hi : i < n) : ∃ b off, A = some ⟨b, off, none⟩ ∧ w.cell? ⟨b, off + i, none⟩ = some (.int .u8 (byteAt l i)) :=
  h.2.2.2 i _ (byteAt_map (by rw [h.len]; exact hi))
theorem Bytes.nil (w : World) (A : Option Addr) (c : Nat) (hc : c ≤ maxLen) : Bytes w A 0 c [] := Rd.nil w 1 c hc A
theorem Bytes.cut (h : Bytes w A n c l) (lo hi : Nat) (h1 : lo ≤ hi) (h2 : hi ≤ n) :
    Bytes w (if c = lo then A else A.map (·.add lo)) (hi - lo) (c - lo) ((l.drop lo).take (hi - lo)) := by
  have := Rd.cut h lo hi h1 h2
  simpa [Bytes, List.map_take, List.map_drop] using this
end
/-- '.slice A n c' reads as the strings l. -/
def Strs (w : World) (A : Option Addr) (n c : Nat) (l : List ByteArray) : Prop := Rd w 1 A n c (l.map Value.string)
section
variable {w w' : World} {A : Option Addr} {n c : Nat} {l : List ByteArray}
theorem Strs.stays (h : Strs w A n c l) (hb : Below w.heap.size w w') : Strs w' A n c l := Rd.stays h hb
theorem Strs.len (h : Strs w A n c l) : l.length = n := by have := h.1; simpa using this
theorem Strs.le (h : Strs w A n c l) : n ≤ c := h.2.1
theorem Strs.cap (h : Strs w A n c l) : c ≤ 9223372036854775807 := by have := h.2.2.1; unfold maxLen at this; omega
theorem Strs.at_ (h : Strs w A n c l) {i : Nat} (hi : i < n) : ∃ b off, A = some ⟨b, off, none⟩ ∧ w.cell? ⟨b, off + i, none⟩ = some (.string (strAt l i)) :=
  h.2.2.2 i _ (strAt_map (by rw [h.len]; exact hi))
end

/-! ### Numbers in bytes -/
/-- The number that bytes say, the first byte first. -/
def be (l : List UInt8) : Nat := l.foldl (fun a x => a * 256 + x.toNat) 0
/-- The same of the first j bytes, modulo 2^64. -/
def be64 (l : List UInt8) (j : Nat) : Nat := be (l.take j) % 18446744073709551616
theorem be64_lt (l : List UInt8) (j : Nat) : be64 l j < 18446744073709551616 := Nat.mod_lt _ (by omega)
theorem be64_zero (l : List UInt8) : be64 l 0 = 0 := rfl
theorem be_snoc (l : List UInt8) (x : UInt8) : be (l ++ [x]) = be l * 256 + x.toNat := by simp [be]
theorem be_take_succ (l : List UInt8) (j : Nat) (h : j < l.length) : be (l.take (j + 1)) = be (l.take j) * 256 + byteAt l j := by
  rw [List.take_succ_eq_append_getElem h, be_snoc]; simp [byteAt, h, List.getD]
theorem be64_step (l : List UInt8) (j : Nat) (h : j < l.length) :
    bits BinOp.or IntKind.u64 (IntKind.u64.wrap ((be64 l j : Int) * 256)) (byteAt l j : Int) = (be64 l (j + 1) : Int) := by
  have hb := byteAt_lt l j
  have h1 := be64_lt l j
  have hw : IntKind.u64.wrap ((be64 l j : Int) * 256) = (((be64 l j * 256) % 18446744073709551616 : Nat) : Int) := by
    simp [IntKind.wrap, IntKind.bits, IntKind.signed]
  rw [hw, bits_join .u64 64 (by decide) (fun n a b => by simp [IntKind.wrap, IntKind.bits, IntKind.signed]; omega) 8 _ _ (by omega) (by omega) (by omega) (by omega) (by omega) (by omega)]
  unfold be64
  rw [be_take_succ l j h]
  omega

/-- The last j bytes of a number. -/
def putL (v : Nat) : Nat → List UInt8
  | 0 => []
  | j + 1 => UInt8.ofNat (v / 256 ^ j) :: putL v j
theorem putL_length (v : Nat) : ∀ j, (putL v j).length = j
  | 0 => rfl
  | j + 1 => by simp [putL, putL_length v j]
/-- The number without its last j bytes. -/
def shB (v j : Nat) : Nat := v / 256 ^ j
theorem shB_zero (v : Nat) : shB v 0 = v := by simp [shB]
theorem shB_succ (v j : Nat) : shB v (j + 1) = shB v j / 256 := by simp [shB, Nat.pow_succ, Nat.div_div_eq_div_mul]
theorem shB_le (v j : Nat) : shB v j ≤ v := Nat.div_le_self _ _
/-- A row of n bytes whose last j are those of v, the others 0. -/
def putArr (v n j : Nat) : Array Value := (List.replicate (n - j) (Value.int .u8 0) ++ (putL v j).map byteV).toArray
theorem putArr_zero (v n : Nat) : madeCells #[Value.int .u8 0] n = putArr v n 0 := by
  apply Array.toList_inj.mp
  rw [toList_madeCells_one]; simp [putArr, putL]
theorem putArr_at (v n j : Nat) (h : j < n) : (putArr v n j)[n - 1 - j]? = some (.int .u8 0) := by
  simp only [putArr, List.getElem?_toArray]
  rw [List.getElem?_append_left (by simp; omega)]
  simp [List.getElem?_replicate]; omega
theorem putArr_set (v n j : Nat) (h : j < n) : (putArr v n j).setIfInBounds (n - 1 - j) (.int .u8 ((shB v j : Int) % 256)) = putArr v n (j + 1) := by
  have hw : Value.int .u8 ((shB v j : Int) % 256) = byteV (UInt8.ofNat (v / 256 ^ j)) := by
    simp [byteV, shB]
  rw [hw]
  simp only [putArr, List.setIfInBounds_toArray, putL, List.map_cons]
  congr 1
  rw [show n - j = (n - (j + 1)) + 1 by omega, List.replicate_succ', List.append_assoc, List.set_append_right _ _ (by simp; omega)]
  simp only [List.length_replicate]
  rw [show n - 1 - j - (n - (j + 1)) = 0 by omega]
  simp
theorem putL_zeros (v : Nat) : ∀ (k j : Nat), shB v j = 0 → putL v (j + k) = List.replicate k 0 ++ putL v j
  | 0, j, _ => by simp
  | k + 1, j, h => by
    have h2 : v / 256 ^ (j + k) = 0 := by
      rw [Nat.pow_add, ← Nat.div_div_eq_div_mul]; unfold shB at h; rw [h]; simp
    rw [← Nat.add_assoc, putL, putL_zeros v k j h, h2, List.replicate_succ]; rfl
theorem putArr_end (v n j : Nat) (h : j ≤ n) (hz : j = n ∨ shB v j = 0) : putArr v n j = ((putL v n).map byteV).toArray := by
  rcases hz with rfl | hz
  · simp [putArr]
  · unfold putArr
    conv => rhs; rw [show n = j + (n - j) by omega, putL_zeros v (n - j) j hz]
    simp [byteV]

theorem Bytes.made {w : World} {l : List UInt8} {E : TypeId} (h : l.length ≤ maxLen) : Bytes (w.alloc (.cells (l.map byteV).toArray E)) (some ⟨w.heap.size, 0, none⟩) l.length l.length l := by
  refine ⟨by simp, Nat.le_refl _, h, fun i u hu => ⟨_, _, rfl, ?_⟩⟩
  rw [World.cell?_alloc_at _ _ _ _ rfl, Nat.zero_add]
  simpa using hu

/-! ### []byte(s) -/
theorem conv_below (w : World) (e : TypeId) (s : ByteArray) : Below w.heap.size w (Lib.bytesWorld w e s) := by
  refine ⟨?_, ?_, ?_, by rw [Lib.bytesWorld_size]; omega, fun k hk => Lib.bytesWorld_at_old w e s k hk⟩ <;> simp [Lib.bytesWorld, World.freeze, World.alloc, World.drew, -World.alloc_eq, -World.drew_eq]
theorem conv_reads (w : World) (e : TypeId) (s : ByteArray) (hs : s.size ≤ maxLen) : Bytes (Lib.bytesWorld w e s) (some ⟨w.heap.size, 0, none⟩) s.size (grownCap w s.size 0 e) s.data.toList := by
  have hl : s.data.toList.length = s.size := Array.length_toList
  refine ⟨by rw [List.length_map, hl, Nat.mul_one], grownCap_ge _ _ _ _, grownCap_le_maxLen _ _ _ _ hs, fun i u hu => ⟨_, _, rfl, ?_⟩⟩
  have hi : i < s.size := by
    rcases Nat.lt_or_ge i s.size with h | h
    · exact h
    · rw [List.getElem?_eq_none (by rw [List.length_map, hl]; exact h)] at hu; cases hu
  rw [Nat.zero_add, Lib.bytesWorld_cell w e s i hi]
  rw [byteAt_map (by rw [hl]; exact hi)] at hu
  exact hu

/-! ### string(b) -/
/-- The string of the bytes l. -/
def strOf (l : List UInt8) : ByteArray := ⟨l.toArray⟩
theorem strOf_toList (l : List UInt8) : (strOf l).toList = l := by simp [strOf]
theorem conv_str {P : Program} {w : World} {A : Option Addr} {n c : Nat} {l : List UInt8} (h : Bytes w A n c l) (src dst e : TypeId) (hs : P.underlying src = some (.slice e)) (he : P.underlying e = some (.int .u8))
    (hd : P.underlying dst = some .string) : (convert src dst (.slice A n c)).run P w = .ok (.string (strOf l)) w := by
  have hn := h.len
  rcases Nat.eq_zero_or_pos n with h0 | hp
  · subst h0
    obtain rfl : l = [] := List.eq_nil_of_length_eq_zero hn
    rw [run_convert_bytes_string w src dst e _ _ _ hs he hd]
    cases A with
    | none => simp [Conv.bytesToString, Sem.run_pure]; rfl
    | some a =>
      have := run_bytesToString (P := P) w a 0 c [] (by simpa using run_loadCells_list (P := P) w a [] (fun j v hj => by simp at hj))
      rw [this]; rfl
  · obtain ⟨b, off, rfl, _⟩ := h.at_ hp
    have hx := run_convert_bytes_arg (P := P) w src e hs he b off n c (l.map fun x => (x.toNat : Int)) (by simpa using hn) (fun i hi => by
      obtain ⟨b', off', e', hc⟩ := h.at_ hi
      simp only [Option.some.injEq, Addr.mk.injEq, and_true] at e'
      obtain ⟨rfl, rfl⟩ := e'
      rw [hc]
      have hl : i < l.length := by omega
      simp [byteAt, List.getD, hl]) dst hd
    rw [hx]
    congr 2
    simp [strOfNums, strOf, Function.comp_def]

/-- What a number's bytes say. -/
theorem be_cons (x : UInt8) (l : List UInt8) : be (x :: l) = x.toNat * 256 ^ l.length + be l := by
  have key : ∀ (l : List UInt8) (a : Nat), l.foldl (fun a x => a * 256 + x.toNat) a = a * 256 ^ l.length + l.foldl (fun a x => a * 256 + x.toNat) 0 := by
    intro l
    induction l with
    | nil => intro a; simp
    | cons y l ih =>
      intro a
      simp only [List.foldl_cons, List.length_cons]
      rw [ih, ih (0 * 256 + y.toNat), Nat.pow_succ, Nat.add_mul, Nat.zero_mul, Nat.zero_add, Nat.add_assoc, Nat.mul_assoc, Nat.mul_comm 256]
  unfold be
  rw [List.foldl_cons, key]; simp
theorem be_putL (v : Nat) : ∀ n, be (putL v n) = v % 256 ^ n
  | 0 => by simp [putL, be, Nat.mod_one]
  | n + 1 => by
    rw [putL, be_cons, putL_length, be_putL v n, Nat.pow_succ, Nat.mod_mul]
    simp
    rw [Nat.mul_comm, Nat.add_comm]

/-- What the walk wants of a world behind a call that only made memory: old cells, old marks. -/
theorem below_reads {W w1 : World} (hb : Below W.heap.size W w1) : (∀ b o, b < W.heap.size → w1.cell? ⟨b, o, none⟩ = W.cell? ⟨b, o, none⟩) ∧ (∀ b o, b < W.heap.size → w1.frozen? ⟨b, o, none⟩ = W.frozen? ⟨b, o, none⟩) ∧ W.heap.size ≤ w1.heap.size :=
  ⟨fun b o h => hb.cell (p := ⟨b, o, none⟩) h, fun b o h => hb.frozen (p := ⟨b, o, none⟩) h, hb.size⟩

theorem below_then {w w1 w2 : World} (h : Below w.heap.size w w1) (k : Below w1.heap.size w1 w2) : Below w.heap.size w w2 := h.trans (k.mono h.size)
theorem below_via {B : Nat} {w w1 w2 : World} (h : Below B w w1) (k : Below w1.heap.size w1 w2) (hB : B ≤ w1.heap.size) : Below B w w2 := h.trans (k.mono hB)
theorem below_draws {B : Nat} {a w : World} (h : Below B a w) : ∀ n, Below B a (w.drewN n)
  | 0 => h
  | n + 1 => (below_draws h n).drew
end Go.Proofs.Ytfkckokaclkjnaa
