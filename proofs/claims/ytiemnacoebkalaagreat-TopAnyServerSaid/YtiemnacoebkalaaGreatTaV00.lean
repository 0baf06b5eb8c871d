import Derived.Test.YtiemnacoebkalaaGreatProg
import Derived.KernelRfl
import Derived.WalkKit
import Derived.WalkSpells
import Derived.WalkLawsBesides
import Derived.Lib.Hide
import Derived.Handy
import Derived.IntWalk
import Derived.Lib.ConvBytes
import Derived.Laws.BytesArg
import Derived.Laws.BitsAllLaws
set_option linter.all false
set_option maxRecDepth 100000
set_option maxHeartbeats 4000000
namespace Go.Proofs.YtiemnacoebkalaaGreat
open Go.RowKit
theorem qn {α : Type} : (∀ (l : List α) (i : Nat) (a : α), l.toArray.setIfInBounds i a = (l.set i a).toArray) ∧ (∀ (a b : α) (l : List α), (a :: l).set 0 b = b :: l) ∧ ∀ (a b : α) (l : List α) (n : Nat), (a :: l).set (n + 1) b = a :: l.set n b := ⟨fun _ _ _ => List.setIfInBounds_toArray .., fun _ _ _ => rfl, fun _ _ _ _ => rfl⟩
theorem qp : (∀ (a : Act) (t : Tmp) (v : Value), a.put (some t) v = { a with tmps := a.tmps.setIfInBounds t v }) ∧ ∀ (a : Act) (v : Value), a.put none v = a := ⟨fun _ _ _ => rfl, fun _ _ => rfl⟩
theorem qq {p : Prop} (h : p) : Hid p := Lib.hid h
class QStay (p : Prop) (w w' : World) (q : outParam Prop) : Prop where
  st : p → Below w.heap.size w w' → q
theorem qs {p q : Prop} {w w' : World} [c : QStay p w w' q] (h : Hid p) (hb : Below w.heap.size w w') : Hid q := c.st h.out hb
theorem qt {w w1 w2 : World} (h : Hid (Below w.heap.size w w1)) (hb : Below w1.heap.size w1 w2) : Hid (Below w.heap.size w w2) := h.out.trans (hb.mono h.out.size)
def Rd (w : World) (size : Nat) (A : Option Addr) (n c : Nat) (xs : List Value) : Prop :=
 xs.length = n * size ∧ n <= c ∧ c <= maxLen ∧ ∀ i u, xs[i]? = some u -> ∃ b off, A = some ⟨b, off, none⟩ ∧ w.cell? ⟨b, off + i, none⟩ = some u

theorem cell_stays {w w' : World} (h : Below w.heap.size w w') {p : Addr} {u : Value} (hc : w.cell? p = some u) : w'.cell? p = some u := by
 rw [h.cell (World.block_lt_of_cell? w p hc)]; exact hc

theorem Rd.stays {w w' : World} {size : Nat} {A : Option Addr} {n c : Nat} {xs : List Value} (h : Rd w size A n c xs) (hb : Below w.heap.size w w') : Rd w' size A n c xs :=
 ⟨h.1, h.2.1, h.2.2.1, fun i u hu => by
  obtain ⟨b, off, e, hc⟩ := h.2.2.2 i u hu; exact ⟨b, off, e, cell_stays hb hc⟩⟩
instance {w w' : World} {size : Nat} {A : Option Addr} {n c : Nat} {xs : List Value} : QStay (Rd w size A n c xs) w w' (Rd w' size A n c xs) := ⟨fun h hb => Rd.stays h hb⟩

theorem Rd.nil (w : World) (size c : Nat) (hc : c <= maxLen) (A : Option Addr) : Rd w size A 0 c [] := ⟨by simp, Nat.zero_le _, hc, fun i u hu => by simp at hu⟩

theorem add_off (b off k : Nat) : (⟨b, off, none⟩ : Addr).add k = ⟨b, off + k, none⟩ := by unfold Addr.add; split <;> simp_all

theorem Rd.cut {w : World} {size : Nat} {A : Option Addr} {n c : Nat} {xs : List Value} (h : Rd w size A n c xs) (lo hi : Nat) (h1 : lo <= hi) (h2 : hi <= n) :
    Rd w size (if c = lo then A else A.map (·.add (lo * size))) (hi - lo) (c - lo) ((xs.drop (lo * size)).take ((hi - lo) * size)) := by
 obtain ⟨hl, hc, hm, hx⟩ := h; refine ⟨?_, by omega, by omega, fun i u hu => ?_⟩
 · rw [List.length_take, List.length_drop, hl, <- Nat.sub_mul]; exact Nat.min_eq_left (Nat.mul_le_mul_right _ (by omega))
 · rw [List.getElem?_take] at hu
   split at hu
   · rename_i hi'; rw [List.getElem?_drop] at hu; obtain ⟨b, off, rfl, hcell⟩ := hx _ u hu; have hlo : lo < hi := by
      rcases Nat.lt_or_ge lo hi with h | h
      · exact h
      · rw [show hi - lo = 0 by omega] at hi'; omega
     rw [if_neg (by omega)]; refine ⟨b, off + lo * size, by simp [add_off], ?_⟩; rw [Nat.add_assoc]; exact hcell
   · cases hu

def byteAt (l : List UInt8) (i : Nat) : Nat := (l.getD i 0).toNat
theorem byteAt_lt (l : List UInt8) (i : Nat) : byteAt l i < 256 := UInt8.toNat_lt _
def byteV (x : UInt8) : Value := .int .u8 x.toNat
theorem byteAt_map {l : List UInt8} {i : Nat} (h : i < l.length) : (l.map byteV)[i]? = some (.int .u8 (byteAt l i)) := by simp [byteAt, byteV, h, List.getD]

def Bytes (w : World) (A : Option Addr) (n c : Nat) (l : List UInt8) : Prop := Rd w 1 A n c (l.map byteV)
section
variable {w w' : World} {A : Option Addr} {n c : Nat} {l : List UInt8}
theorem Bytes.stays (h : Bytes w A n c l) (hb : Below w.heap.size w w') : Bytes w' A n c l := Rd.stays h hb
instance : QStay (Bytes w A n c l) w w' (Bytes w' A n c l) := ⟨fun h hb => Bytes.stays h hb⟩
theorem Bytes.len (h : Bytes w A n c l) : l.length = n := by have := h.1; simpa using this
theorem Bytes.le (h : Bytes w A n c l) : n <= c := h.2.1
theorem Bytes.cap (h : Bytes w A n c l) : c <= 9223372036854775807 := by have := h.2.2.1; unfold maxLen at this; omega
theorem Bytes.at_ (h : Bytes w A n c l) {i : Nat} (hi : i < n) : ∃ b off, A = some ⟨b, off, none⟩ ∧ w.cell? ⟨b, off + i, none⟩ = some (.int .u8 (byteAt l i)) :=
 h.2.2.2 i _ (byteAt_map (by rw [h.len]; exact hi))
theorem Bytes.nil (w : World) (A : Option Addr) (c : Nat) (hc : c <= maxLen) : Bytes w A 0 c [] := Rd.nil w 1 c hc A
theorem Bytes.cut (h : Bytes w A n c l) (lo hi : Nat) (h1 : lo <= hi) (h2 : hi <= n) :
    Bytes w (if c = lo then A else A.map (·.add lo)) (hi - lo) (c - lo) ((l.drop lo).take (hi - lo)) := by
 have := Rd.cut h lo hi h1 h2
 simpa [Bytes, List.map_take, List.map_drop] using this
end
section
variable {w w' : World} {A : Option Addr} {n c : Nat} {l : List ByteArray}
end
def be (l : List UInt8) : Nat := l.foldl (fun a x => a * 256 + x.toNat) 0
def be64 (l : List UInt8) (j : Nat) : Nat := be (l.take j) % 18446744073709551616
theorem be64_lt (l : List UInt8) (j : Nat) : be64 l j < 18446744073709551616 := Nat.mod_lt _ (by omega)
theorem be_snoc (l : List UInt8) (x : UInt8) : be (l ++ [x]) = be l * 256 + x.toNat := by simp [be]
theorem be_take_succ (l : List UInt8) (j : Nat) (h : j < l.length) : be (l.take (j + 1)) = be (l.take j) * 256 + byteAt l j := by
 rw [List.take_succ_eq_append_getElem h, be_snoc]; simp [byteAt, h, List.getD]
theorem be64_step (l : List UInt8) (j : Nat) (h : j < l.length) :
    bits BinOp.or IntKind.u64 (IntKind.u64.wrap ((be64 l j : Int) * 256)) (byteAt l j : Int) = (be64 l (j + 1) : Int) := by
 have hb := byteAt_lt l j; have h1 := be64_lt l j; have hw : IntKind.u64.wrap ((be64 l j : Int) * 256) = (((be64 l j * 256) % 18446744073709551616 : Nat) : Int) := by
  simp [IntKind.wrap, IntKind.bits, IntKind.signed]
 rw [hw, bits_join .u64 64 (by decide) (fun n a b => by simp [IntKind.wrap, IntKind.bits, IntKind.signed]; omega) 8 _ _ (by omega) (by omega) (by omega) (by omega) (by omega) (by omega)]; unfold be64; rw [be_take_succ l j h]; omega

def putL (v : Nat) : Nat -> List UInt8
 | 0 => []
 | j + 1 => UInt8.ofNat (v / 256 ^ j) :: putL v j
theorem putL_length (v : Nat) : ∀ j, (putL v j).length = j
 | 0 => rfl
 | j + 1 => by simp [putL, putL_length v j]
def shB (v j : Nat) : Nat := v / 256 ^ j
theorem shB_zero (v : Nat) : shB v 0 = v := by simp [shB]
theorem shB_succ (v j : Nat) : shB v (j + 1) = shB v j / 256 := by simp [shB, Nat.pow_succ, Nat.div_div_eq_div_mul]
theorem shB_le (v j : Nat) : shB v j <= v := Nat.div_le_self _ _
def putArr (v n j : Nat) : Array Value := (List.replicate (n - j) (Value.int .u8 0) ++ (putL v j).map byteV).toArray
theorem putArr_zero (v n : Nat) : madeCells #[Value.int .u8 0] n = putArr v n 0 := by
 apply Array.toList_inj.mp; rw [toList_madeCells_one]; simp [putArr, putL]
theorem putArr_at (v n j : Nat) (h : j < n) : (putArr v n j)[n - 1 - j]? = some (.int .u8 0) := by
 simp only [putArr, List.getElem?_toArray]; rw [List.getElem?_append_left (by simp; omega)]; simp [List.getElem?_replicate]; omega
theorem putArr_set (v n j : Nat) (h : j < n) : (putArr v n j).setIfInBounds (n - 1 - j) (.int .u8 ((shB v j : Int) % 256)) = putArr v n (j + 1) := by
 have hw : Value.int .u8 ((shB v j : Int) % 256) = byteV (UInt8.ofNat (v / 256 ^ j)) := by
  simp [byteV, shB]
 rw [hw]; simp only [putArr, List.setIfInBounds_toArray, putL, List.map_cons]
 congr 1
 rw [show n - j = (n - (j + 1)) + 1 by omega, List.replicate_succ', List.append_assoc, List.set_append_right _ _ (by simp; omega)]; simp only [List.length_replicate]; rw [show n - 1 - j - (n - (j + 1)) = 0 by omega]; simp
theorem putL_zeros (v : Nat) : ∀ (k j : Nat), shB v j = 0 -> putL v (j + k) = List.replicate k 0 ++ putL v j
 | 0, j, _ => by simp
 | k + 1, j, h => by
  have h2 : v / 256 ^ (j + k) = 0 := by
   rw [Nat.pow_add, <- Nat.div_div_eq_div_mul]; unfold shB at h; rw [h]; simp
  rw [<- Nat.add_assoc, putL, putL_zeros v k j h, h2, List.replicate_succ]; rfl
theorem putArr_end (v n j : Nat) (h : j <= n) (hz : j = n ∨ shB v j = 0) : putArr v n j = ((putL v n).map byteV).toArray := by
 rcases hz with rfl | hz
 · simp [putArr]
 · unfold putArr
   conv => rhs; rw [show n = j + (n - j) by omega, putL_zeros v (n - j) j hz]
   simp [byteV]

theorem Bytes.made {w : World} {l : List UInt8} {E : TypeId} (h : l.length <= maxLen) : Bytes (w.alloc (.cells (l.map byteV).toArray E)) (some ⟨w.heap.size, 0, none⟩) l.length l.length l := by
 refine ⟨by simp, Nat.le_refl _, h, fun i u hu => ⟨_, _, rfl, ?_⟩⟩; rw [World.cell?_alloc_at _ _ _ _ rfl, Nat.zero_add]
 simpa using hu

theorem conv_below (w : World) (e : TypeId) (s : ByteArray) : Below w.heap.size w (Lib.bytesWorld w e s) := by
 refine ⟨?_, ?_, ?_, by rw [Lib.bytesWorld_size]; omega, fun k hk => Lib.bytesWorld_at_old w e s k hk⟩ <;> simp [Lib.bytesWorld, World.freeze, World.alloc, World.drew, -World.alloc_eq, -World.drew_eq]
theorem conv_reads (w : World) (e : TypeId) (s : ByteArray) (hs : s.size <= maxLen) : Bytes (Lib.bytesWorld w e s) (some ⟨w.heap.size, 0, none⟩) s.size (grownCap w s.size 0 e) s.data.toList := by
 have hl : s.data.toList.length = s.size := Array.length_toList; refine ⟨by rw [List.length_map, hl, Nat.mul_one], grownCap_ge _ _ _ _, grownCap_le_maxLen _ _ _ _ hs, fun i u hu => ⟨_, _, rfl, ?_⟩⟩; have hi : i < s.size := by
  rcases Nat.lt_or_ge i s.size with h | h
  · exact h
  · rw [List.getElem?_eq_none (by rw [List.length_map, hl]; exact h)] at hu; cases hu
 rw [Nat.zero_add, Lib.bytesWorld_cell w e s i hi]; rw [byteAt_map (by rw [hl]; exact hi)] at hu; exact hu

def strOf (l : List UInt8) : ByteArray := ⟨l.toArray⟩
theorem strOf_toList (l : List UInt8) : (strOf l).toList = l := by simp [strOf]
theorem conv_str {P : Program} {w : World} {A : Option Addr} {n c : Nat} {l : List UInt8} (h : Bytes w A n c l) (src dst e : TypeId) (hs : P.underlying src = some (.slice e)) (he : P.underlying e = some (.int .u8))
    (hd : P.underlying dst = some .string) : (convert src dst (.slice A n c)).run P w = .ok (.string (strOf l)) w := by
 have hn := h.len; rcases Nat.eq_zero_or_pos n with h0 | hp
 · subst h0; obtain rfl : l = [] := List.eq_nil_of_length_eq_zero hn; rw [run_convert_bytes_string w src dst e _ _ _ hs he hd]
   cases A with
   | none => simp [Conv.bytesToString, Sem.run_pure]; rfl
   | some a =>
    have := run_bytesToString (P := P) w a 0 c [] (by simpa using run_loadCells_list (P := P) w a [] (fun j v hj => by simp at hj)); rw [this]; rfl
 · obtain ⟨b, off, rfl, _⟩ := h.at_ hp; have hx := run_convert_bytes_arg (P := P) w src e hs he b off n c (l.map fun x => (x.toNat : Int)) (by simpa using hn) (fun i hi => by
    obtain ⟨b', off', e', hc⟩ := h.at_ hi; simp only [Option.some.injEq, Addr.mk.injEq, and_true] at e'; obtain ⟨rfl, rfl⟩ := e'; rw [hc]; have hl : i < l.length := by omega
    simp [byteAt, List.getD, hl]) dst hd
   rw [hx]
   congr 2
   simp [strOfNums, strOf, Function.comp_def]

theorem be_cons (x : UInt8) (l : List UInt8) : be (x :: l) = x.toNat * 256 ^ l.length + be l := by
 have key : ∀ (l : List UInt8) (a : Nat), l.foldl (fun a x => a * 256 + x.toNat) a = a * 256 ^ l.length + l.foldl (fun a x => a * 256 + x.toNat) 0 := by
  intro l
  induction l with
  | nil => intro a; simp
  | cons y l ih =>
   intro a; simp only [List.foldl_cons, List.length_cons]; rw [ih, ih (0 * 256 + y.toNat), Nat.pow_succ, Nat.add_mul, Nat.zero_mul, Nat.zero_add, Nat.add_assoc, Nat.mul_assoc, Nat.mul_comm 256]
 unfold be; rw [List.foldl_cons, key]; simp
theorem be_putL (v : Nat) : ∀ n, be (putL v n) = v % 256 ^ n
 | 0 => by simp [putL, be, Nat.mod_one]
 | n + 1 => by
  rw [putL, be_cons, putL_length, be_putL v n, Nat.pow_succ, Nat.mod_mul]; simp; rw [Nat.mul_comm, Nat.add_comm]

theorem below_reads {W w1 : World} (hb : Below W.heap.size W w1) : (∀ b o, b < W.heap.size -> w1.cell? ⟨b, o, none⟩ = W.cell? ⟨b, o, none⟩) ∧ (∀ b o, b < W.heap.size -> w1.frozen? ⟨b, o, none⟩ = W.frozen? ⟨b, o, none⟩) ∧ W.heap.size <= w1.heap.size :=
 ⟨fun b o h => hb.cell (p := ⟨b, o, none⟩) h, fun b o h => hb.frozen (p := ⟨b, o, none⟩) h, hb.size⟩

theorem below_via {B : Nat} {w w1 w2 : World} (h : Below B w w1) (k : Below w1.heap.size w1 w2) (hB : B <= w1.heap.size) : Below B w w2 := h.trans (k.mono hB)
def Blk (w : World) (g : Nat) (t : TypeId) (cs : Array Value) : Prop := w.heap[g]? = some (.cells cs t (0, 0))
section
variable {w w' : World} {g : Nat} {t : TypeId} {cs : Array Value}
theorem Blk.lt (h : Blk w g t cs) : g < w.heap.size := by
 rcases Nat.lt_or_ge g w.heap.size with hlt | hge
 · exact hlt
 · unfold Blk at h; rw [Array.getElem?_eq_none hge] at h; cases h
theorem Blk.cell (h : Blk w g t cs) (i : Nat) : w.cell? ⟨g, i, none⟩ = cs[i]? := cell_of_row w g i cs t (0, 0) h
theorem Blk.frozen (h : Blk w g t cs) (i : Nat) : w.frozen? ⟨g, i, none⟩ = false := by
 unfold Blk at h; simp [World.frozen?, h]
theorem Blk.new (w : World) (t : TypeId) (cs : Array Value) : Blk (w.alloc (.cells cs t)) w.heap.size t cs := heap_alloc_new w _
theorem Blk.same (h : Blk w g t cs) (e : w'.heap[g]? = w.heap[g]?) : Blk w' g t cs := e.trans h
theorem Blk.stays (h : Blk w g t cs) (hb : Below w.heap.size w w') : Blk w' g t cs := (hb.block g h.lt).trans h
instance : QStay (Blk w g t cs) w w' (Blk w' g t cs) := ⟨fun h hb => Blk.stays h hb⟩
theorem Blk.grown (h : Blk w g t cs) {row : Option Nat} (hb : w.grownBy w' row) (hg : some g ≠ row) : Blk w' g t cs := (hb.block g h.lt hg).trans h
theorem Blk.put (h : Blk w g t cs) (i : Nat) (u : Value) : Blk (w.setCell ⟨g, i, none⟩ u) g t (cs.setIfInBounds i u) := by
 unfold Blk at h ⊢; simp [World.setCell, Array.getElem?_modify, h]
theorem Blk.far (h : Blk w g t cs) {p : Addr} (hp : g ≠ p.block) (u : Value) : Blk (w.setCell p u) g t cs := (Below.heap_setCell w p u g hp).trans h
end
def stores (w : World) (g : Nat) : List Value -> Nat -> World
 | [], _ => w
 | v :: vs, k => stores (w.setCell ⟨g, k, none⟩ v) g vs (k + 1)
theorem stores_at (g t : Nat) : ∀ (vs cs pre : List Value) (w : World) (k : Nat), Blk w g t (pre ++ cs).toArray -> vs.length = cs.length -> pre.length = k -> Blk (stores w g vs k) g t (pre ++ vs).toArray
 | [], cs, pre, w, k, h, hl, _ => by
  have : cs = [] := List.eq_nil_of_length_eq_zero (by simpa using hl.symm); subst this; exact h
 | v :: vs, [], pre, w, k, h, hl, _ => by simp at hl
 | v :: vs, c :: cs, pre, w, k, h, hl, hk => by
  have h2 := h.put k v; have e : (pre ++ c :: cs).toArray.setIfInBounds k v = ((pre ++ [v]) ++ cs).toArray := by
   subst hk; simp
  rw [e] at h2; have h3 := stores_at g t vs cs (pre ++ [v]) _ (k + 1) h2 (by simpa using hl) (by simp [hk]); rw [List.append_assoc] at h3; exact h3
theorem Blk.filled {w : World} {g t : Nat} {cs : Array Value} (h : Blk w g t cs) (vs : List Value) (hl : vs.length = cs.size) : Blk (stores w g vs 0) g t vs.toArray := by
 have h' : Blk w g t (([] : List Value) ++ cs.toList).toArray := by simpa using h
 exact stores_at g t vs cs.toList [] w 0 h' (by simpa using hl) rfl
theorem Below.stores {B g : Nat} {w0 : World} (hg : B <= g) : ∀ (vs : List Value) (w : World) (k : Nat), Below B w0 w -> Below B w0 (stores w g vs k)
 | [], _, _, h => h
 | v :: vs, w, k, h => Below.stores hg vs _ (k + 1) (h.setCell (p := ⟨g, k, none⟩) hg v)
theorem Blk.drew {w : World} {g t : Nat} {cs : Array Value} (h : Blk w g t cs) : Blk w.drew g t cs := h.same rfl
section
variable (w : World) (o o1 o2 o3 : Obj)
theorem below_alloc1 : Below w.heap.size w (w.alloc o) := (Below.refl _ _).alloc (Nat.le_refl _) _
theorem below_alloc2 : Below w.heap.size w ((w.alloc o).alloc o1) := (below_alloc1 w o).alloc (by simp) _
theorem below_alloc3 : Below w.heap.size w (((w.alloc o).alloc o1).alloc o2) := (below_alloc2 w o o1).alloc (by simp; omega) _
theorem below_alloc4 : Below w.heap.size w ((((w.alloc o).alloc o1).alloc o2).alloc o3) := (below_alloc3 w o o1 o2).alloc (by simp; omega) _
end
section
variable (w : World) (c0 : Array Value) (t0 : TypeId) (c1 : Array Value) (t1 : TypeId) (c2 : Array Value) (t2 : TypeId) (c3 : Array Value) (t3 : TypeId)
theorem blk_new1_0 : Blk (w.alloc (.cells c0 t0)) w.heap.size t0 c0 := Blk.new _ _ _
theorem blk_new2_0 : Blk ((w.alloc (.cells c0 t0)).alloc (.cells c1 t1)) w.heap.size t0 c0 := (Blk.new _ _ _).stays (below_alloc1 _ _)
theorem blk_new2_1 : Blk ((w.alloc (.cells c0 t0)).alloc (.cells c1 t1)) (w.heap.size + 1) t1 c1 := by
 have := Blk.new (w.alloc (.cells c0 t0)) t1 c1
 simpa using this
theorem blk_new3_0 : Blk (((w.alloc (.cells c0 t0)).alloc (.cells c1 t1)).alloc (.cells c2 t2)) w.heap.size t0 c0 := (blk_new2_0 w c0 t0 c1 t1).stays (below_alloc1 _ _)
theorem blk_new3_1 : Blk (((w.alloc (.cells c0 t0)).alloc (.cells c1 t1)).alloc (.cells c2 t2)) (w.heap.size + 1) t1 c1 := (blk_new2_1 w c0 t0 c1 t1).stays (below_alloc1 _ _)
theorem blk_new3_2 : Blk (((w.alloc (.cells c0 t0)).alloc (.cells c1 t1)).alloc (.cells c2 t2)) (w.heap.size + 1 + 1) t2 c2 := by
 have := Blk.new ((w.alloc (.cells c0 t0)).alloc (.cells c1 t1)) t2 c2
 simpa using this
theorem blk_new4_0 : Blk ((((w.alloc (.cells c0 t0)).alloc (.cells c1 t1)).alloc (.cells c2 t2)).alloc (.cells c3 t3)) w.heap.size t0 c0 := (blk_new3_0 w c0 t0 c1 t1 c2 t2).stays (below_alloc1 _ _)
theorem blk_new4_1 : Blk ((((w.alloc (.cells c0 t0)).alloc (.cells c1 t1)).alloc (.cells c2 t2)).alloc (.cells c3 t3)) (w.heap.size + 1) t1 c1 := (blk_new3_1 w c0 t0 c1 t1 c2 t2).stays (below_alloc1 _ _)
theorem blk_new4_2 : Blk ((((w.alloc (.cells c0 t0)).alloc (.cells c1 t1)).alloc (.cells c2 t2)).alloc (.cells c3 t3)) (w.heap.size + 1 + 1) t2 c2 := (blk_new3_2 w c0 t0 c1 t1 c2 t2).stays (below_alloc1 _ _)
theorem blk_new4_3 : Blk ((((w.alloc (.cells c0 t0)).alloc (.cells c1 t1)).alloc (.cells c2 t2)).alloc (.cells c3 t3)) (w.heap.size + 1 + 1 + 1) t3 c3 := by
 have := Blk.new (((w.alloc (.cells c0 t0)).alloc (.cells c1 t1)).alloc (.cells c2 t2)) t3 c3
 simpa using this
end
theorem Blk.again {w : World} {g : Nat} {t : TypeId} {cs : Array Value} (h : Blk w g t cs) (i : Nat) (v : Value) (hv : cs[i]? = some v) : w.setCell ⟨g, i, none⟩ v = w := by
 have hc : cs.setIfInBounds i v = cs := by
  apply Array.ext_getElem?; intro j; rw [Array.getElem?_setIfInBounds]
  split
  · rename_i e; subst e; rw [hv]
    split
    · rfl
    · rename_i hn; rw [Array.getElem?_eq_none (by omega)] at hv; cases hv
  · rfl
 have hh : (w.setCell ⟨g, i, none⟩ v).heap = w.heap := by
  apply Array.ext_getElem?; intro j
  by_cases e : j = g
  · subst e; have := h.put i v; rw [hc] at this; exact this.trans h.symm
  · exact Below.heap_setCell w ⟨g, i, none⟩ v j e
 show { w with heap := (w.setCell ⟨g, i, none⟩ v).heap } = w
 rw [hh]
end Go.Proofs.YtiemnacoebkalaaGreat
namespace Go.Proofs.YtiemnacoebkalaaGreat
open Go Go.RowKit
def bU (l : List UInt8) (i : Nat) : UInt8 := l.getD i 0
theorem byteAt_bU (l : List UInt8) (i : Nat) : byteAt l i = (bU l i).toNat := rfl
theorem bytes_range (l : List UInt8) : l.map byteV = (List.range l.length).map fun i => Value.int .u8 (byteAt l i) := by
 apply List.ext_getElem
 · simp
 · intro i h1 h2; have hi : i < l.length := by simpa using h1
   simp [byteAt, byteV, List.getD, hi]
def bytesC (l : List UInt8) : Array Value := (l.map byteV).toArray
theorem bytesC_at {l : List UInt8} {i : Nat} (h : i < l.length) : (bytesC l)[i]? = some (.int .u8 (byteAt l i)) := by
 unfold bytesC; rw [List.getElem?_toArray]; exact byteAt_map h
theorem bytesC_16 {l : List UInt8} (h : l.length = 16) : bytesC l = #[.int .u8 (byteAt l 0), .int .u8 (byteAt l 1), .int .u8 (byteAt l 2), .int .u8 (byteAt l 3), .int .u8 (byteAt l 4), .int .u8 (byteAt l 5), .int .u8 (byteAt l 6), .int .u8 (byteAt l 7), .int .u8 (byteAt l 8), .int .u8 (byteAt l 9), .int .u8 (byteAt l 10), .int .u8 (byteAt l 11), .int .u8 (byteAt l 12), .int .u8 (byteAt l 13), .int .u8 (byteAt l 14), .int .u8 (byteAt l 15)] := by
 unfold bytesC; rw [bytes_range, h]
 rfl
theorem bytesC_4 {l : List UInt8} (h : l.length = 4) : bytesC l = #[.int .u8 (byteAt l 0), .int .u8 (byteAt l 1), .int .u8 (byteAt l 2), .int .u8 (byteAt l 3)] := by
 unfold bytesC; rw [bytes_range, h]
 rfl
theorem bytesC_set (l : List UInt8) (i : Nat) (x : UInt8) : (bytesC l).setIfInBounds i (byteV x) = bytesC (l.set i x) := by
 unfold bytesC; rw [List.setIfInBounds_toArray, List.map_set]
def setsL (f : List UInt8 -> Nat -> UInt8) (g : Nat -> Nat) (l : List UInt8) : Nat -> List UInt8
 | 0 => l
 | i + 1 => (setsL f g l i).set (g i) (f (setsL f g l i) i)
theorem setsL_length (f : List UInt8 -> Nat -> UInt8) (g : Nat -> Nat) (l : List UInt8) : ∀ k, (setsL f g l k).length = l.length
 | 0 => rfl
 | i + 1 => by rw [setsL, List.length_set, setsL_length f g l i]
theorem xor_u8 (x y : UInt8) : bits .xor .u8 (x.toNat : Int) (y.toNat : Int) = ((x ^^^ y).toNat : Int) := by
 rw [u8_xor_nat _ _ (UInt8.toNat_lt _) (UInt8.toNat_lt _), UInt8.toNat_xor]
def dblU (x : UInt8) : UInt8 := if x.toNat < 128 then UInt8.ofNat (2 * x.toNat) else UInt8.ofNat (2 * x.toNat - 256) ^^^ 27
def xorB (l m : List UInt8) : List UInt8 := setsL (fun s i => bU s i ^^^ bU m i) id l 16
def boxL : List UInt8 := [99, 124, 119, 123, 242, 107, 111, 197, 48, 1, 103, 43, 254, 215, 171, 118, 202, 130, 201, 125, 250, 89, 71, 240, 173, 212, 162, 175, 156, 164, 114, 192, 183, 253, 147, 38, 54, 63, 247, 204, 52, 165, 229, 241, 113, 216, 49, 21, 4, 199, 35, 195, 24, 150, 5, 154, 7, 18, 128, 226, 235, 39, 178, 117, 9, 131, 44, 26, 27, 110, 90, 160, 82, 59, 214, 179, 41, 227, 47, 132, 83, 209, 0, 237, 32, 252, 177, 91, 106, 203, 190, 57, 74, 76, 88, 207, 208, 239, 170, 251, 67, 77, 51, 133, 69, 249, 2, 127, 80, 60, 159, 168, 81, 163, 64, 143, 146, 157, 56, 245, 188, 182, 218, 33, 16, 255, 243, 210, 205, 12, 19, 236, 95, 151, 68, 23, 196, 167, 126, 61, 100, 93, 25, 115, 96, 129, 79, 220, 34, 42, 144, 136, 70, 238, 184, 20, 222, 94, 11, 219, 224, 50, 58, 10, 73, 6, 36, 92, 194, 211, 172, 98, 145, 149, 228, 121, 231, 200, 55, 109, 141, 213, 78, 169, 108, 86, 244, 234, 101, 122, 174, 8, 186, 120, 37, 46, 28, 166, 180, 198, 232, 221, 116, 31, 75, 189, 139, 138, 112, 62, 181, 102, 72, 3, 246, 14, 97, 53, 87, 185, 134, 193, 29, 158, 225, 248, 152, 17, 105, 217, 142, 148, 155, 30, 135, 233, 206, 85, 40, 223, 140, 161, 137, 13, 191, 230, 66, 104, 65, 153, 45, 15, 176, 84, 187, 22]
def subU (x : UInt8) : UInt8 := bU boxL x.toNat
def replB (l : List UInt8) : List UInt8 := setsL (fun _ i => subU (bU l ((i + 4 * (i % 4)) % 16))) id l 16
def mixC (c : Nat) (w l : List UInt8) (k : Nat) : List UInt8 :=
 setsL (fun _ r => bU w r ^^^ (bU w 0 ^^^ bU w 1 ^^^ bU w 2 ^^^ bU w 3) ^^^ dblU (bU w r ^^^ bU w ((r + 1) % 4))) (fun r => c + r) l k
def mixB (l : List UInt8) : Nat -> List UInt8
 | 0 => l
 | c + 1 => mixC (4 * c) (((mixB l c).drop (4 * c)).take 4) (mixB l c) 4
theorem mixB_length (l : List UInt8) : ∀ c, (mixB l c).length = l.length
 | 0 => rfl
 | c + 1 => by rw [mixB, mixC, setsL_length, mixB_length l c]
def keyAt (ks : List UInt8) (r : Nat) : List UInt8 := (ks.drop (16 * r)).take 16
def roundsB (ks l : List UInt8) : Nat -> List UInt8
 | 0 => xorB l (keyAt ks 0)
 | r + 1 => xorB (if r + 1 < 10 then mixB (replB (roundsB ks l r)) 4 else replB (roundsB ks l r)) (keyAt ks (r + 1))
def aesB (ks l : List UInt8) : List UInt8 := roundsB ks l 10
theorem roundsB_length (ks l : List UInt8) : ∀ r, (roundsB ks l r).length = l.length
 | 0 => by rw [roundsB, xorB, setsL_length]
 | r + 1 => by
  rw [roundsB, xorB, setsL_length]
  split
  · rw [mixB_length, replB, setsL_length, roundsB_length ks l r]
  · rw [replB, setsL_length, roundsB_length ks l r]
theorem aesB_length (ks l : List UInt8) : (aesB ks l).length = l.length := roundsB_length ks l 10
def turnW (ws : List UInt8) (con : UInt8) (i : Nat) : List UInt8 :=
 if i % 4 = 0 then [subU (bU ws (4 * i - 4 + 1)) ^^^ con, subU (bU ws (4 * i - 4 + 2)), subU (bU ws (4 * i - 4 + 3)), subU (bU ws (4 * i - 4))]
 else [bU ws (4 * i - 4), bU ws (4 * i - 4 + 1), bU ws (4 * i - 4 + 2), bU ws (4 * i - 4 + 3)]
def moreW (t : List UInt8) (i : Nat) (ws : List UInt8) : Nat -> List UInt8
 | 0 => ws
 | k + 1 => moreW t i ws k ++ [bU (moreW t i ws k) (4 * i - 16 + k) ^^^ bU t k]
def wordsB (key : List UInt8) : Nat -> List UInt8 × UInt8
 | 0 => (key, 1)
 | n + 1 => (moreW (turnW (wordsB key n).1 (wordsB key n).2 (n + 4)) (n + 4) (wordsB key n).1 4, if (n + 4) % 4 = 0 then dblU (wordsB key n).2 else (wordsB key n).2)
def keysB (key : List UInt8) : List UInt8 := (wordsB key 40).1
theorem moreW_length (t : List UInt8) (i : Nat) (ws : List UInt8) : ∀ k, (moreW t i ws k).length = ws.length + k
 | 0 => rfl
 | k + 1 => by rw [moreW, List.length_append, moreW_length t i ws k]; rfl
theorem wordsB_length (key : List UInt8) : ∀ n, (wordsB key n).1.length = key.length + 4 * n
 | 0 => rfl
 | n + 1 => by rw [wordsB, moreW_length, wordsB_length key n]; omega
theorem dbl_lo : ∀ x < 256, x < 128 -> bits .and .u8 ((x : Nat) : Int) 128 = 0 := by decide +kernel
theorem dbl_hi : ∀ x < 256, ¬ x < 128 -> bits .and .u8 ((x : Nat) : Int) 128 = 128 := by decide +kernel
theorem dbl_xor : ∀ x < 256, bits .xor .u8 ((x : Nat) : Int) 27 = ((UInt8.ofNat x ^^^ 27).toNat : Int) := by decide +kernel
end Go.Proofs.YtiemnacoebkalaaGreat
namespace Go.Proofs.YtiemnacoebkalaaGreat
open Go.RowKit
def rotI (x : Int) (k : Nat) : Int := bits .or .u32 (x / 2 ^ k) (IntKind.u32.wrap (x * 2 ^ (32 - k)))
def xo (a b : Int) : Int := bits .xor .u32 a b
def an (a b : Int) : Int := bits .and .u32 a b
def w32 (x : Int) : Int := x % 4294967296
structure St where
 a : Int
 b : Int
 c : Int
 d : Int
 e : Int
 f : Int
 g : Int
 h : Int
def sg0 (x : Int) : Int := xo (xo (rotI x 7) (rotI x 18)) (x / 8)
def sg1 (x : Int) : Int := xo (xo (rotI x 17) (rotI x 19)) (x / 1024)
def bs0 (x : Int) : Int := xo (xo (rotI x 2) (rotI x 13)) (rotI x 22)
def bs1 (x : Int) : Int := xo (xo (rotI x 6) (rotI x 11)) (rotI x 25)
def chI (e f g : Int) : Int := xo (an e f) (an (xo 4294967295 e) g)
def majI (a b c : Int) : Int := xo (xo (an a b) (an a c)) (an b c)
def t1I (s : St) (k w : Int) : Int := w32 (s.h + bs1 s.e + chI s.e s.f s.g + k + w)
def t2I (s : St) : Int := w32 (bs0 s.a + majI s.a s.b s.c)
def step (s : St) (k w : Int) : St := ⟨w32 (t1I s k w + t2I s), s.a, s.b, s.c, w32 (s.d + t1I s k w), s.e, s.f, s.g⟩
def kTab : List Int := [
 0x428a2f98, 0x71374491, 0xb5c0fbcf, 0xe9b5dba5, 0x3956c25b, 0x59f111f1, 0x923f82a4, 0xab1c5ed5,
 0xd807aa98, 0x12835b01, 0x243185be, 0x550c7dc3, 0x72be5d74, 0x80deb1fe, 0x9bdc06a7, 0xc19bf174,
 0xe49b69c1, 0xefbe4786, 0x0fc19dc6, 0x240ca1cc, 0x2de92c6f, 0x4a7484aa, 0x5cb0a9dc, 0x76f988da,
 0x983e5152, 0xa831c66d, 0xb00327c8, 0xbf597fc7, 0xc6e00bf3, 0xd5a79147, 0x06ca6351, 0x14292967,
 0x27b70a85, 0x2e1b2138, 0x4d2c6dfc, 0x53380d13, 0x650a7354, 0x766a0abb, 0x81c2c92e, 0x92722c85,
 0xa2bfe8a1, 0xa81a664b, 0xc24b8b70, 0xc76c51a3, 0xd192e819, 0xd6990624, 0xf40e3585, 0x106aa070,
 0x19a4c116, 0x1e376c08, 0x2748774c, 0x34b0bcb5, 0x391c0cb3, 0x4ed8aa4a, 0x5b9cca4f, 0x682e6ff3,
 0x748f82ee, 0x78a5636f, 0x84c87814, 0x8cc70208, 0x90befffa, 0xa4506ceb, 0xbef9a3f7, 0xc67178f2]
def firstS : St := ⟨0x6a09e667, 0xbb67ae85, 0x3c6ef372, 0xa54ff53a, 0x510e527f, 0x9b05688c, 0x1f83d9ab, 0x5be0cd19⟩
def wAt (l : List Int) (i : Nat) : Int := l.getD i 0
def wordAt (b : List UInt8) (t : Nat) : Int := byteAt b (4 * t) * 16777216 + byteAt b (4 * t + 1) * 65536 + byteAt b (4 * t + 2) * 256 + byteAt b (4 * t + 3)
def nextW (b : List UInt8) (l : List Int) (n : Nat) : Int :=
 if n < 16 then wordAt b n else w32 (sg1 (wAt l (n - 2)) + wAt l (n - 7) + sg0 (wAt l (n - 15)) + wAt l (n - 16))
def sched (b : List UInt8) : Nat -> List Int
 | 0 => []
 | n + 1 => sched b n ++ [nextW b (sched b n) n]
def rounds (h : St) (ws : List Int) : Nat -> St
 | 0 => h
 | n + 1 => step (rounds h ws n) (wAt kTab n) (wAt ws n)
def addS (s t : St) : St := ⟨w32 (s.a + t.a), w32 (s.b + t.b), w32 (s.c + t.c), w32 (s.d + t.d), w32 (s.e + t.e), w32 (s.f + t.f), w32 (s.g + t.g), w32 (s.h + t.h)⟩
def blk (h : St) (b : List UInt8) : St := addS h (rounds h (sched b 64) 64)
def blocksL (h : St) (b : List UInt8) : Nat -> St
 | 0 => h
 | j + 1 => blk (blocksL h b j) ((b.drop (64 * j)).take 64)
def padN (n : Nat) : Nat := if n + 9 <= 64 then 55 - n else 119 - n
def padL (n count : Nat) : List UInt8 := 128 :: (List.replicate (padN n) 0 ++ putL (count * 8 % 18446744073709551616) 8)
def outL (h : St) : List UInt8 := putL h.a.toNat 4 ++ putL h.b.toNat 4 ++ putL h.c.toNat 4 ++ putL h.d.toNat 4 ++ putL h.e.toNat 4 ++ putL h.f.toNat 4 ++ putL h.g.toNat 4 ++ putL h.h.toNat 4
def finL (h : St) (rest : List UInt8) (count : Nat) : List UInt8 := outL (blocksL h (rest ++ padL rest.length count) (if rest.length + 9 <= 64 then 1 else 2))
def wholeS (b : List UInt8) : St := blocksL firstS b (b.length / 64)
def restL (b : List UInt8) : List UInt8 := b.drop (64 * (b.length / 64))
def sumL (b : List UInt8) : List UInt8 := finL (wholeS b) (restL b) b.length
def InW (x : Int) : Prop := 0 <= x ∧ x < 4294967296
def InS (s : St) : Prop := InW s.a ∧ InW s.b ∧ InW s.c ∧ InW s.d ∧ InW s.e ∧ InW s.f ∧ InW s.g ∧ InW s.h
theorem w32_in (x : Int) : InW (w32 x) := by unfold InW w32; omega
theorem bits_in (o : BinOp) (a b : Int) : InW (bits o .u32 a b) := ⟨bits_lo_u32 o a b, by have := bits_hi_u32 o a b; omega⟩
theorem rot_in (x : Int) (k : Nat) : InW (rotI x k) := bits_in _ _ _
theorem step_in {s : St} (h : InS s) (k w : Int) : InS (step s k w) := by
 obtain ⟨a, b, c, d, e, f, g, hh⟩ := h; exact ⟨w32_in _, a, b, c, w32_in _, e, f, g⟩
theorem rounds_in {h : St} (hi : InS h) (ws : List Int) : ∀ n, InS (rounds h ws n)
 | 0 => hi
 | n + 1 => step_in (rounds_in hi ws n) _ _
theorem addS_in (s t : St) : InS (addS s t) := ⟨w32_in _, w32_in _, w32_in _, w32_in _, w32_in _, w32_in _, w32_in _, w32_in _⟩
theorem blk_in (h : St) (b : List UInt8) : InS (blk h b) := addS_in _ _
theorem blocks_in {h : St} (hi : InS h) (b : List UInt8) : ∀ n, InS (blocksL h b n)
 | 0 => hi
 | _ + 1 => blk_in _ _
theorem first_in : InS firstS := by unfold InS InW firstS; decide
theorem sched_len (b : List UInt8) : ∀ n, (sched b n).length = n
 | 0 => rfl
 | n + 1 => by simp [sched, sched_len b n]
theorem wordAt_in (b : List UInt8) (t : Nat) : InW (wordAt b t) := by
 have := byteAt_lt b (4 * t); have := byteAt_lt b (4 * t + 1); have := byteAt_lt b (4 * t + 2); have := byteAt_lt b (4 * t + 3); unfold InW wordAt; omega
theorem nextW_in (b : List UInt8) (l : List Int) (n : Nat) : InW (nextW b l n) := by
 unfold nextW; split
 · exact wordAt_in _ _
 · exact w32_in _
theorem sched_in (b : List UInt8) : ∀ n, ∀ x ∈ sched b n, InW x
 | 0 => by simp [sched]
 | n + 1 => by
  intro x hx; rw [sched, List.mem_append] at hx; rcases hx with h | h
  · exact sched_in b n x h
  · simp at h; subst h; exact nextW_in _ _ _
theorem wAt_in {l : List Int} (h : ∀ x ∈ l, InW x) (i : Nat) : InW (wAt l i) := by
 unfold wAt; rcases Nat.lt_or_ge i l.length with hi | hi
 · have : l.getD i 0 = l[i] := by simp [List.getD, hi]
   rw [this]; exact h _ (List.getElem_mem hi)
 · have : l.getD i 0 = 0 := by simp [List.getD, hi]
   rw [this]; unfold InW; omega
theorem sched_at (b : List UInt8) (t : Nat) : ∀ n, t < n -> wAt (sched b n) t = nextW b (sched b t) t
 | 0, h => by omega
 | n + 1, h => by
  by_cases e : t = n
  · subst e; unfold wAt; simp [sched, List.getD, sched_len]
  · unfold wAt; have h2 : t < (sched b n).length := by rw [sched_len]; omega
    have := sched_at b t n (by omega); unfold wAt at this; rw [sched, List.getD, List.getElem?_append_left h2]; exact this
theorem outL_length (h : St) : (outL h).length = 32 := by simp [outL, putL_length]
theorem finL_length (h : St) (r : List UInt8) (c : Nat) : (finL h r c).length = 32 := outL_length _
theorem sumL_length (b : List UInt8) : (sumL b).length = 32 := finL_length _ _ _
theorem padL_length (n c : Nat) (h : n < 64) : n + (padL n c).length = if n + 9 <= 64 then 64 else 128 := by
 simp only [padL, padN, List.length_cons, List.length_append, List.length_replicate, putL_length]
 split <;> omega

theorem infoByte : (Tryz.prog.info? 5).map (fun i => (i.zero, i.size, i.bytes)) = some (some (.int .u8 0), 1, 1) := by kernel_rfl

theorem make_bytes (n : Nat) (hn : n <= 1000000) (w : World) : (Instr.makeSlice 27 (.int .i64 n) (.int .i64 n)).run Tryz.prog w =
    .ok (.slice (some ⟨w.heap.size, 0, none⟩) n n) (w.alloc (.cells (madeCells #[.int .u8 0] n) 5)) := by
 obtain ⟨i0, hi, hz0, hz1, hz2⟩ := info_parts infoByte; have := run_make (P := Tryz.prog) w 27 5 i0 (.int .u8 0) Tryz.underlying27 hi hz0 .i64 .i64 n n (by omega) (by omega) (by rw [hz2]; omega) (by omega)
 simpa [hz1, Value.cells] using this

theorem put_any (v n : Nat) (hn : n <= 64) (w : World) :
    Calls Tryz.prog 66 #[.int .u64 v, .int .i64 n] w fun e w' => e = .returned (.slice (some ⟨w.heap.size, 0, none⟩) n n) ∧ w' = w.alloc (.cells ((putL v n).map byteV).toArray 5) := by
 have hmk := make_bytes n (by omega) w; rw [putArr_zero v n] at hmk
 go_enter Tryz.func66, Tryz.ntmps66
 go_wp2; clear hmk
 go_loopw [0, 6] (fun x i wr => ∃ j : Nat, j <= n ∧ i = .int .i64 ((n : Int) - 1 - j) ∧ x = .int .u64 (shB v j) ∧ wr = w.alloc (.cells (putArr v n j) 5)) (fun _ i _ => (intOf i + 1).toNat)
 case atStart => exact ⟨0, Nat.zero_le _, by simp, by rw [shB_zero], rfl⟩
 case round =>
  obtain ⟨j, hj, rfl, rfl, rfl⟩ := hrel; have hle := shB_le v j
  by_cases hjk : j < n
  · have hat := putArr_at v n j hjk
    by_cases hz : 0 < shB v j
    · go_wp2
      go_roundw
      case rel => exact ⟨j + 1, by omega, by congr 1; omega, by rw [shB_succ]; rfl, by rw [putArr_set v n j hjk]⟩
      case measure => simp [intOf]; omega
    · go_wp2; go_ret; exact ⟨rfl, by rw [putArr_end v n j hj (.inr (by omega))]⟩
  · obtain rfl : j = n := by omega
    go_wp2; go_ret; exact ⟨rfl, by rw [putArr_end v j j hj (.inl rfl)]⟩

theorem refPut_any (v n : Nat) (hn : n <= 64) (w : World) :
    Calls Tryz.prog 36 #[.int .u64 v, .int .i64 n] w fun e w' => e = .returned (.slice (some ⟨w.heap.size, 0, none⟩) n n) ∧ w' = w.alloc (.cells ((putL v n).map byteV).toArray 5) := by
 have hmk := make_bytes n (by omega) w; rw [putArr_zero v n] at hmk
 go_enter Tryz.func36, Tryz.ntmps36
 go_wp2; clear hmk
 go_loopw [0, 6] (fun x i wr => ∃ j : Nat, j <= n ∧ i = .int .i64 ((n : Int) - 1 - j) ∧ x = .int .u64 (shB v j) ∧ wr = w.alloc (.cells (putArr v n j) 5)) (fun _ i _ => (intOf i + 1).toNat)
 case atStart => exact ⟨0, Nat.zero_le _, by simp, by rw [shB_zero], rfl⟩
 case round =>
  obtain ⟨j, hj, rfl, rfl, rfl⟩ := hrel; have hle := shB_le v j
  by_cases hjk : j < n
  · have hat := putArr_at v n j hjk; go_wp2
    go_roundw
    case rel => exact ⟨j + 1, by omega, by congr 1; omega, by rw [shB_succ]; rfl, by rw [putArr_set v n j hjk]⟩
    case measure => simp [intOf]; omega
  · obtain rfl : j = n := by omega
    go_wp2; go_ret; exact ⟨rfl, by rw [putArr_end v j j hj (.inl rfl)]⟩
theorem put_reads (v n : Nat) (hn : n <= 64) (w : World) :
    Calls Tryz.prog 66 #[.int .u64 v, .int .i64 n] w fun e w' => ∃ A c, e = .returned (.slice A n c) ∧ Bytes w' A n c (putL v n) ∧ Below w.heap.size w w' := by
 refine (put_any v n hn w).mono fun e w' h => ?_
 obtain ⟨rfl, rfl⟩ := h; have := Bytes.made (w := w) (l := putL v n) (E := 5) (by rw [putL_length]; exact Nat.le_trans hn (by decide)); rw [putL_length] at this; exact ⟨_, _, rfl, this, (Below.refl _ _).alloc (Nat.le_refl _) _⟩
theorem refPut_reads (v n : Nat) (hn : n <= 64) (w : World) :
    Calls Tryz.prog 36 #[.int .u64 v, .int .i64 n] w fun e w' => ∃ A c, e = .returned (.slice A n c) ∧ Bytes w' A n c (putL v n) ∧ Below w.heap.size w w' := by
 refine (refPut_any v n hn w).mono fun e w' h => ?_
 obtain ⟨rfl, rfl⟩ := h; have := Bytes.made (w := w) (l := putL v n) (E := 5) (by rw [putL_length]; exact Nat.le_trans hn (by decide)); rw [putL_length] at this; exact ⟨_, _, rfl, this, (Below.refl _ _).alloc (Nat.le_refl _) _⟩
theorem beq_dec (l l2 : List UInt8) : (l == l2) = decide (l = l2) := by by_cases h : l = l2 <;> simp [h]

theorem refSame_any (A : Option Addr) (n c : Nat) (l : List UInt8) (A2 : Option Addr) (n2 c2 : Nat) (l2 : List UInt8) (w : World) (h1 : Bytes w A n c l) (h2 : Bytes w A2 n2 c2 l2) :
    Calls Tryz.prog 14 #[.slice A n c, .slice A2 n2 c2] w fun e w' => e = .returned (.bool (decide (l = l2))) ∧ w = w' := by
 have e1 := conv_str (P := Tryz.prog) h1 27 9 5 Tryz.underlying27 Tryz.underlying5 Tryz.underlying9; have e2 := conv_str (P := Tryz.prog) h2 27 9 5 Tryz.underlying27 Tryz.underlying5 Tryz.underlying9; clear h1 h2
 go_enter Tryz.func14, Tryz.ntmps14
 go_wp2; go_ret; refine ⟨?_, rfl⟩; simp [strOf_toList, beq_dec]
theorem refSame_true {A : Option Addr} {n c : Nat} {l : List UInt8} {A2 : Option Addr} {n2 c2 : Nat} {l2 : List UInt8} {w : World} (h1 : Bytes w A n c l) (h2 : Bytes w A2 n2 c2 l2) (e0 : l = l2) :
    Calls Tryz.prog 14 #[.slice A n c, .slice A2 n2 c2] w fun e w' => e = .returned (.bool true) ∧ w = w' :=
 (refSame_any A n c l A2 n2 c2 l2 w h1 h2).mono fun e w' h => by rw [decide_eq_true e0] at h; exact h
theorem bytesEqual_any (A : Option Addr) (n c : Nat) (l : List UInt8) (A2 : Option Addr) (n2 c2 : Nat) (l2 : List UInt8) (w : World) (h1 : Bytes w A n c l) (h2 : Bytes w A2 n2 c2 l2) :
    Calls Tryz.prog 101 #[.slice A n c, .slice A2 n2 c2] w fun e w' => e = .returned (.bool (decide (l = l2))) ∧ w = w' := by
 have e1 := conv_str (P := Tryz.prog) h1 27 9 5 Tryz.underlying27 Tryz.underlying5 Tryz.underlying9; have e2 := conv_str (P := Tryz.prog) h2 27 9 5 Tryz.underlying27 Tryz.underlying5 Tryz.underlying9; clear h1 h2
 go_enter Tryz.func101, Tryz.ntmps101
 go_wp2; go_ret; refine ⟨?_, rfl⟩; simp [strOf_toList, beq_dec]

theorem octSame_any (A : Option Addr) (n c : Nat) (l : List UInt8) (A2 : Option Addr) (n2 c2 : Nat) (l2 : List UInt8) (w : World) (h1 : Bytes w A n c l) (h2 : Bytes w A2 n2 c2 l2) :
    Calls Tryz.prog 47 #[.slice A n c, .slice A2 n2 c2] w fun e w' => e = .returned (.bool (decide (l = l2))) ∧ w = w' := by
 have C := qq (bytesEqual_any A n c l A2 n2 c2 l2 w h1 h2); clear h1 h2
 go_enter Tryz.func47, Tryz.ntmps47
 go_wp2_with fail
 refine C.out.mono ?_; rintro e w' ⟨rfl, rfl⟩; go_wp2; go_ret; exact ⟨rfl, rfl⟩
def cutA (A : Option Addr) (c lo : Nat) : Option Addr := if c = lo then A else A.map (·.add lo)
theorem Bytes.cutS {w : World} {A : Option Addr} {n c : Nat} {l : List UInt8} (h : Bytes w A n c l) (lo hi : Nat) (h1 : lo <= hi) (h2 : hi <= n) {d k : Nat} (hd : hi - lo = d) (hk : c - lo = k) : Bytes w (cutA A c lo) d k ((l.drop lo).take d) := by
 subst hd hk; exact h.cut lo hi h1 h2
theorem Bytes.cutTo {w : World} {A : Option Addr} {n c : Nat} {l : List UInt8} (h : Bytes w A n c l) (m : Nat) (hm : m <= n) : Bytes w A m c (l.take m) := by
 refine ⟨by have := h.len; simp; omega, Nat.le_trans hm h.le, h.2.2.1, fun i u hu => ?_⟩; rw [List.map_take, List.getElem?_take] at hu
 split at hu
 · exact h.2.2.2 i u hu
 · cases hu
theorem Bytes.cutFrom {w : World} {A : Option Addr} {n c : Nat} {l : List UInt8} (h : Bytes w A n c l) (lo : Nat) (h1 : lo <= n) {d k : Nat} (hd : n - lo = d) (hk : c - lo = k) : Bytes w (cutA A c lo) d k (l.drop lo) := by
 have := h.cutS lo n h1 (Nat.le_refl _) hd hk
 rwa [List.take_of_length_le (by rw [List.length_drop, h.len]; omega)] at this
section
variable {P : Program} {t : TypeId} (ht : P.underlying t = some (.slice (P.elem t))) (hs : ∀ w, (sizeOf (P.elem t)).run P w = .ok 1 w) {A : Option Addr} {n c : Nat}
include ht hs
theorem run_cut (lo hi : Int) (a b d k : Nat) (ha : lo = a) (hb : hi = b) (h1 : a <= b) (h2 : b <= c) (hd : b - a = d) (hk : c - a = k) (w : World) :
    (Instr.slice t (.slice A n c) (some (.int .i64 lo)) (some (.int .i64 hi)) none).run P w = .ok (.slice (cutA A c a) d k) w := by
 subst ha hb hd hk; rw [run_slice_lh w t A n c ht .i64 .i64 a b (by omega) (by omega) (by omega), hs]; simp [Result.andThen, sliced, cutA]
theorem run_cutFrom (lo : Int) (a d k : Nat) (ha : lo = a) (h1 : a <= n) (hd : n - a = d) (hk : c - a = k) (w : World) :
    (Instr.slice t (.slice A n c) (some (.int .i64 lo)) none none).run P w = .ok (.slice (cutA A c a) d k) w := by
 subst ha hd hk; rw [run_slice_l w t A n c ht .i64 a (by omega) (by omega), hs]; simp [Result.andThen, sliced, cutA]
end
theorem und_bytes : Tryz.prog.underlying 27 = some (.slice (Tryz.prog.elem 27)) := by kernel_rfl
theorem size_byte (w : World) : (sizeOf (Tryz.prog.elem 27)).run Tryz.prog w = .ok 1 w := by kernel_rfl
theorem be_drop (l : List UInt8) (h : 8 <= l.length) : be64 (l.drop (l.length - 8)) 8 = be64 l l.length := by
 have key : ∀ (a b : List UInt8) (x : Nat), b.length = 8 -> (a ++ b).foldl (fun a x => a * 256 + x.toNat) x % 18446744073709551616 = b.foldl (fun a x => a * 256 + x.toNat) 0 % 18446744073709551616 := by
  intro a b x hb; rw [List.foldl_append]
  generalize a.foldl (fun a x => a * 256 + x.toNat) x = y
  obtain ⟨b0, b1, b2, b3, b4, b5, b6, b7, rfl⟩ : ∃ b0 b1 b2 b3 b4 b5 b6 b7, b = [b0, b1, b2, b3, b4, b5, b6, b7] := by
   match b, hb with
   | [b0, b1, b2, b3, b4, b5, b6, b7], _ => exact ⟨b0, b1, b2, b3, b4, b5, b6, b7, rfl⟩
  simp only [List.foldl_cons, List.foldl_nil]; omega
 unfold be64 be; rw [List.take_of_length_le (Nat.le_refl _)]
 conv => rhs; rw [<- List.take_append_drop (l.length - 8) l]
 rw [key _ _ _ (by simp; omega), List.take_of_length_le (by simp; omega)]

theorem get_any (A : Option Addr) (n c : Nat) (l : List UInt8) (w : World) (hv : Bytes w A n c l) :
    Calls Tryz.prog 71 #[.slice A n c] w fun e w' => e = .returned (.int .u64 (be64 l n)) ∧ w = w' := by
 have hcap := hv.cap; have hle := hv.le
 by_cases h8 : n <= 8
 · have HV := qq hv; clear hv
   go_enter Tryz.func71, Tryz.ntmps71
   go_wp2
   go_loop [3, 13] (fun x i => ∃ j : Nat, j <= n ∧ i = .int .i64 j ∧ x = .int .u64 (be64 l j)) (fun _ i => n - (intOf i).toNat)
   case atStart => exact ⟨0, Nat.zero_le _, rfl, rfl⟩
   case round =>
    obtain ⟨j, hj, rfl, rfl⟩ := hrel
    by_cases hjk : j < n
    · obtain ⟨b, off, rfl, hc⟩ := HV.out.at_ hjk; have hb1 := byteAt_lt l j; have hb2 := be64_lt l j; go_wp2
      go_round
      case rel => exact ⟨j + 1, by omega, by go_num, by rw [be64_step l j (by rw [HV.out.len]; exact hjk)]⟩
      case measure => simp [intOf]; omega
    · go_wp2; go_ret; obtain rfl : j = n := by omega
      exact ⟨rfl, rfl⟩
 · have hv2 := hv.cut (n - 8) n (by omega) (Nat.le_refl _); rw [if_neg (by omega), show n - (n - 8) = 8 by omega] at hv2; have HL := qq hv.len; have h8' : 8 < n := by omega
   have HV := qq hv2; clear hv hv2 h8
   go_enter Tryz.func71, Tryz.ntmps71
   go_wp2; rw [show n - (n - 8) = 8 by omega]
   go_loop [3, 13] (fun x i => ∃ j : Nat, j <= 8 ∧ i = .int .i64 j ∧ x = .int .u64 (be64 ((l.drop (n - 8)).take 8) j)) (fun _ i => 8 - (intOf i).toNat)
   case atStart => exact ⟨0, Nat.zero_le _, rfl, rfl⟩
   case round =>
    obtain ⟨j, hj, rfl, rfl⟩ := hrel
    by_cases hjk : j < 8
    · obtain ⟨b, off, he, hc⟩ := HV.out.at_ hjk; have hb1 := byteAt_lt ((l.drop (n - 8)).take 8) j; have hb2 := be64_lt ((l.drop (n - 8)).take 8) j; go_wp2
      go_round
      case rel => exact ⟨j + 1, by omega, by go_num, by rw [be64_step _ j (by rw [HV.out.len]; exact hjk)]⟩
      case measure => simp [intOf]; omega
    · go_wp2; go_ret; obtain rfl : j = 8 := by omega
      refine ⟨?_, rfl⟩; have e := be_drop l (by rw [HL.out]; omega); rw [HL.out] at e; rw [<- e, List.take_of_length_le (by simp [HL.out]; omega)]
      rfl
def padK (k : List UInt8) : List UInt8 := k ++ List.replicate (64 - k.length) 0
def maskL (k : List UInt8) (m : UInt8) : List UInt8 := (padK k).map (· ^^^ m)
def shortK (k : List UInt8) : List UInt8 := if 64 < k.length then sumL k else k
def macL (key b : List UInt8) : List UInt8 := sumL (maskL (shortK key) 92 ++ sumL (maskL (shortK key) 54 ++ b))
def lastE (key info : List UInt8) : Nat -> List UInt8
 | 0 => []
 | j + 1 => macL key (lastE key info j ++ info ++ [UInt8.ofNat (j + 1)])
def outE (key info : List UInt8) : Nat -> List UInt8
 | 0 => []
 | j + 1 => outE key info j ++ lastE key info (j + 1)
def expandL (key info : List UInt8) (n : Nat) : List UInt8 := (outE key info ((n + 31) / 32)).take n
def labelL (p n c : List UInt8) : List UInt8 := p ++ 0 :: (n ++ 0 :: sumL c)
theorem macL_length (k b : List UInt8) : (macL k b).length = 32 := sumL_length _
theorem lastE_length (k i : List UInt8) (j : Nat) : (lastE k i (j + 1)).length = 32 := macL_length _ _
theorem outE_length (k i : List UInt8) : ∀ j, (outE k i j).length = 32 * j
 | 0 => rfl
 | j + 1 => by rw [outE, List.length_append, outE_length k i j, lastE_length]; omega
theorem outE_take (k i : List UInt8) (n j : Nat) (h : n <= 32 * j) : ∀ m, (outE k i (j + m)).take n = (outE k i j).take n
 | 0 => rfl
 | m + 1 => by
  rw [<- Nat.add_assoc, outE, List.take_append_of_le_length (by rw [outE_length]; omega)]; exact outE_take k i n j h m
theorem expandL_of (k i : List UInt8) (n j : Nat) (h : n <= 32 * j) : (outE k i j).take n = expandL k i n := by
 have h1 : n <= 32 * ((n + 31) / 32) := by omega
 unfold expandL; rcases Nat.le_total j ((n + 31) / 32) with hj | hj
 · rw [<- outE_take k i n j h ((n + 31) / 32 - j)]; congr 2; omega
 · rw [<- outE_take k i n _ h1 (j - (n + 31) / 32)]; congr 2; omega
theorem expandL_length (k i : List UInt8) (n : Nat) : (expandL k i n).length = n := by
 unfold expandL; rw [List.length_take, outE_length]; omega
def ctrL (s i : Nat) : List UInt8 := sumL (putL s 8 ++ putL i 4)
def streamL (s : Nat) : Nat -> List UInt8
 | 0 => []
 | j + 1 => streamL s j ++ ctrL s j
def wbytesL (s n : Nat) : List UInt8 := (streamL s ((n + 31) / 32)).take n
theorem ctrL_length (s i : Nat) : (ctrL s i).length = 32 := sumL_length _
theorem streamL_length (s : Nat) : ∀ j, (streamL s j).length = 32 * j
 | 0 => rfl
 | j + 1 => by rw [streamL, List.length_append, streamL_length s j, ctrL_length]; omega
theorem streamL_take (s n j : Nat) (h : n <= 32 * j) : ∀ m, (streamL s (j + m)).take n = (streamL s j).take n
 | 0 => rfl
 | m + 1 => by
  rw [<- Nat.add_assoc, streamL, List.take_append_of_le_length (by rw [streamL_length]; omega)]; exact streamL_take s n j h m
theorem wbytesL_of (s n j : Nat) (h : n <= 32 * j) : (streamL s j).take n = wbytesL s n := by
 have h1 : n <= 32 * ((n + 31) / 32) := by omega
 unfold wbytesL; rcases Nat.le_total j ((n + 31) / 32) with hj | hj
 · rw [<- streamL_take s n j h ((n + 31) / 32 - j)]; congr 2; omega
 · rw [<- streamL_take s n _ h1 (j - (n + 31) / 32)]; congr 2; omega
theorem wbytesL_length (s n : Nat) : (wbytesL s n).length = n := by
 unfold wbytesL; rw [List.length_take, streamL_length]; omega
theorem pb_be_putL (v k : Nat) (hk : k <= 8) (X : List UInt8) : be64 (putL v k ++ X) k = v % 256 ^ k := by
 unfold be64; rw [List.take_append_of_le_length (by rw [putL_length]; exact Nat.le_refl _), List.take_of_length_le (by rw [putL_length]; exact Nat.le_refl _), be_putL]; apply Nat.mod_eq_of_lt; have h1 := Nat.mod_lt v (Nat.pow_pos (n := k) (show 0 < 256 by omega)); have h2 : 256 ^ k <= 256 ^ 8 := Nat.pow_le_pow_right (by omega) hk; omega
theorem pb_putL_be (l : List UInt8) : putL (be l) l.length = l := by
 have key : ∀ (l : List UInt8) (m : Nat), putL (be l + m * 256 ^ l.length) l.length = l := by
  intro l
  induction l with
  | nil => intro m; rfl
  | cons x l ih =>
   intro m; rw [List.length_cons, putL, be_cons]; have hb : be l < 256 ^ l.length := by
    have := be_putL (be l) l.length; have h2 := ih 0; simp at h2; rw [h2] at this; rw [this]; exact Nat.mod_lt _ (Nat.pow_pos (by omega))
   congr 1
   · apply UInt8.toNat_inj.mp; have hx := UInt8.toNat_lt x; simp only [UInt8.toNat_ofNat']; rw [show x.toNat * 256 ^ l.length + be l + m * 256 ^ (l.length + 1) = be l + 256 ^ l.length * (x.toNat + m * 256) by
      rw [Nat.pow_succ, Nat.mul_add, Nat.mul_comm x.toNat, Nat.mul_comm m, Nat.mul_assoc (256 ^ l.length), Nat.mul_comm 256 m]; omega]
     rw [Nat.add_mul_div_left _ _ (Nat.pow_pos (by omega)), Nat.div_eq_of_lt hb]; omega
   · rw [show x.toNat * 256 ^ l.length + be l + m * 256 ^ (l.length + 1) = be l + (x.toNat + m * 256) * 256 ^ l.length by
       rw [Nat.pow_succ, Nat.add_mul, Nat.mul_comm (256 ^ l.length) 256, <- Nat.mul_assoc]; omega]
     exact ih _
 have := key l 0
 simpa using this
theorem pb_be_lt (l : List UInt8) : be l < 256 ^ l.length := by
 have h := be_putL (be l) l.length; rw [pb_putL_be] at h; rw [h]; exact Nat.mod_lt _ (Nat.pow_pos (by omega))
theorem pb_be64_lt (X : List UInt8) (k : Nat) : be64 X k < 256 ^ k ∨ X.length < k := by
 rcases Nat.lt_or_ge X.length k with h | h
 · exact .inr h
 · left
   have hlen : (X.take k).length = k := by simp; omega
   have h1 := pb_be_lt (X.take k); rw [hlen] at h1; unfold be64; exact Nat.lt_of_le_of_lt (Nat.mod_le _ _) h1
section
variable {W : World} {g : Nat} {a0 a1 a2 a3 a4 a5 a6 a7 a8 a9 a10 a11 a12 v0 v1 v2 v3 v4 v5 v6 v7 v8 v9 v10 v11 v12 : Value}
theorem store_hd (hB : Blk W g 48 #[a0, a1, a2, a3, a4, a5, a6, a7, a8, a9, a10, a11, a12]) : Blk (((((((((((((W.setCell ⟨g, 0, none⟩ v0).setCell ⟨g, 1, none⟩ v1).setCell ⟨g, 2, none⟩ v2).setCell ⟨g, 3, none⟩ v3).setCell ⟨g, 4, none⟩ v4).setCell ⟨g, 5, none⟩ v5).setCell ⟨g, 6, none⟩ v6).setCell ⟨g, 7, none⟩ v7).setCell ⟨g, 8, none⟩ v8).setCell ⟨g, 9, none⟩ v9).setCell ⟨g, 10, none⟩ v10).setCell ⟨g, 11, none⟩ v11).setCell ⟨g, 12, none⟩ v12) g 48 #[v0, v1, v2, v3, v4, v5, v6, v7, v8, v9, v10, v11, v12] := by
 have := (((((((((((((hB.put 0 v0).put 1 v1).put 2 v2).put 3 v3).put 4 v4).put 5 v5).put 6 v6).put 7 v7).put 8 v8).put 9 v9).put 10 v10).put 11 v11).put 12 v12)
 simpa using this
theorem results_hd2 {fn : Func} {r t u : Tmp} (h : fn.results = #[.cell r 48, .tmp t]) (tmps : Array Value) (ht : tmps.getD r undef = .pointer (some ⟨g, 0, none⟩)) (hB : Blk W g 48 #[a0, a1, a2, a3, a4, a5, a6, a7, a8, a9, a10, a11, a12]) :
    (results fn tmps).run Tryz.prog W = .ok (.tuple #[.agg #[a0, a1, a2, a3, a4, a5, a6, a7, a8, a9, a10, a11, a12], tmps.getD t undef]) W := by
 have h0 := hB.cell 0; have h1 := hB.cell 1; have h2 := hB.cell 2; have h3 := hB.cell 3; have h4 := hB.cell 4; have h5 := hB.cell 5; have h6 := hB.cell 6; have h7 := hB.cell 7; have h8 := hB.cell 8; have h9 := hB.cell 9; have h10 := hB.cell 10; have h11 := hB.cell 11; have h12 := hB.cell 12; simp at h0 h1 h2 h3 h4 h5 h6 h7 h8 h9 h10 h11 h12; simp only [Array.getD_eq_getD_getElem?] at ht ⊢; simp [results, h, ht, go_sem, *]
theorem results_hdS2 {fn : Func} {r t u : Tmp} (h : fn.results = #[.cell r 48, .tmp t]) (tmps : Array Value) (ht : tmps.getD r undef = .pointer (some ⟨g, 0, none⟩)) (hB : Blk W g 48 #[a0, a1, a2, a3, a4, a5, a6, a7, a8, a9, a10, a11, a12]) :
    (results fn tmps).run Tryz.prog (((((((((((((W.setCell ⟨g, 0, none⟩ v0).setCell ⟨g, 1, none⟩ v1).setCell ⟨g, 2, none⟩ v2).setCell ⟨g, 3, none⟩ v3).setCell ⟨g, 4, none⟩ v4).setCell ⟨g, 5, none⟩ v5).setCell ⟨g, 6, none⟩ v6).setCell ⟨g, 7, none⟩ v7).setCell ⟨g, 8, none⟩ v8).setCell ⟨g, 9, none⟩ v9).setCell ⟨g, 10, none⟩ v10).setCell ⟨g, 11, none⟩ v11).setCell ⟨g, 12, none⟩ v12) = .ok (.tuple #[.agg #[v0, v1, v2, v3, v4, v5, v6, v7, v8, v9, v10, v11, v12], tmps.getD t undef]) (((((((((((((W.setCell ⟨g, 0, none⟩ v0).setCell ⟨g, 1, none⟩ v1).setCell ⟨g, 2, none⟩ v2).setCell ⟨g, 3, none⟩ v3).setCell ⟨g, 4, none⟩ v4).setCell ⟨g, 5, none⟩ v5).setCell ⟨g, 6, none⟩ v6).setCell ⟨g, 7, none⟩ v7).setCell ⟨g, 8, none⟩ v8).setCell ⟨g, 9, none⟩ v9).setCell ⟨g, 10, none⟩ v10).setCell ⟨g, 11, none⟩ v11).setCell ⟨g, 12, none⟩ v12) := results_hd2 (r := r) (t := t) (u := u) h tmps ht (store_hd hB)
theorem results_hd3 {fn : Func} {r t u : Tmp} (h : fn.results = #[.cell r 48, .tmp t, .tmp u]) (tmps : Array Value) (ht : tmps.getD r undef = .pointer (some ⟨g, 0, none⟩)) (hB : Blk W g 48 #[a0, a1, a2, a3, a4, a5, a6, a7, a8, a9, a10, a11, a12]) :
    (results fn tmps).run Tryz.prog W = .ok (.tuple #[.agg #[a0, a1, a2, a3, a4, a5, a6, a7, a8, a9, a10, a11, a12], tmps.getD t undef, tmps.getD u undef]) W := by
 have h0 := hB.cell 0; have h1 := hB.cell 1; have h2 := hB.cell 2; have h3 := hB.cell 3; have h4 := hB.cell 4; have h5 := hB.cell 5; have h6 := hB.cell 6; have h7 := hB.cell 7; have h8 := hB.cell 8; have h9 := hB.cell 9; have h10 := hB.cell 10; have h11 := hB.cell 11; have h12 := hB.cell 12; simp at h0 h1 h2 h3 h4 h5 h6 h7 h8 h9 h10 h11 h12; simp only [Array.getD_eq_getD_getElem?] at ht ⊢; simp [results, h, ht, go_sem, *]
end
theorem tmod_within (v n : Int) (hn : 1 <= n) : (v.tmod n < 0 -> v.tmod n + n = v % n) ∧ (0 <= v.tmod n -> v.tmod n = v % n) := by
 have h1 := Int.tmod_eq_emod (a := v) (b := n); have h3 := Int.emod_nonneg v (show n ≠ 0 by omega); have h4 := Int.emod_lt_of_pos v (show 0 < n by omega); rw [h1]
 split <;> constructor <;> intro h <;> omega

theorem within_any (v n : Int) (hn : 1 <= n) (h2 : n <= 9223372036854775807) (w : World) :
    Calls Tryz.prog 5 #[.int .i64 v, .int .i64 n] w fun e w' => e = .returned (.int .i64 (v % n)) ∧ w = w' := by
 have ⟨a, b⟩ := tmod_within v n hn; have h3 := Int.emod_nonneg v (show n ≠ 0 by omega); have h4 := Int.emod_lt_of_pos v (show 0 < n by omega); have A := qq a; have B := qq b; clear a b
 by_cases hneg : v.tmod n < 0
 · have e1 := A.out hneg; have E : Hid (wrap64 (v.tmod n + n) = v % n) := by unfold Hid wrap64; omega
   clear e1
   go_enter Tryz.func5, Tryz.ntmps5
   go_wp2; go_ret; exact ⟨by simp [E.out], rfl⟩
 · have E : Hid (v.tmod n = v % n) := B.out (by omega)
   go_enter Tryz.func5, Tryz.ntmps5
   go_wp2; go_ret; exact ⟨by simp [E.out], rfl⟩

end Go.Proofs.YtiemnacoebkalaaGreat
namespace Go.Proofs.YtiemnacoebkalaaGreat
open Go Go.RowKit
def forceN {α : Type} (n : Nat) (k : Nat -> α) : α := Nat.rec (motive := fun _ => α) (k 0) (fun m _ => k (Nat.succ m)) n
theorem forceN_eq {α : Type} (n : Nat) (k : Nat -> α) : forceN n k = k n := by cases n <;> rfl
def pk : List Nat -> Nat
 | [] => 0
 | x :: l => x + 18446744073709551616 * pk l
theorem pk_add {β : Type} (f g : β -> Nat) : ∀ L : List β, pk (L.map f) + pk (L.map g) = pk (L.map fun s => f s + g s)
  | [] => rfl
  | s :: L => by have := pk_add f g L; simp only [List.map_cons, pk]; omega
theorem pk_mul {β : Type} (f : β -> Nat) (c : Nat) : ∀ L : List β, pk (L.map f) * c = pk (L.map fun s => f s * c)
  | [] => Nat.zero_mul _
  | s :: L => by have := pk_mul f c L; simp only [List.map_cons, pk]; rw [<- this, Nat.add_mul, Nat.mul_assoc]
theorem lane_bit (x a j : Nat) (hx : x < 18446744073709551616) : (x + 18446744073709551616 * a).testBit j = if j < 64 then x.testBit j else a.testBit (j - 64) := by
 have h := Nat.testBit_two_pow_mul_add a (i := 64) (b := x) (by exact hx) j; rw [show (2 ^ 64 : Nat) = 18446744073709551616 from rfl] at h; rw [Nat.add_comm]; exact h
theorem lane_and (x y a b : Nat) (hx : x < 18446744073709551616) (hy : y < 18446744073709551616) : Nat.land (x + 18446744073709551616 * a) (y + 18446744073709551616 * b) = Nat.land x y + 18446744073709551616 * Nat.land a b := by
 have hz : Nat.land x y < 18446744073709551616 := Nat.and_lt_two_pow (n := 64) x hy; apply Nat.eq_of_testBit_eq; intro j; rw [lane_bit _ _ _ hz]; have h := Nat.testBit_and (x + 18446744073709551616 * a) (y + 18446744073709551616 * b) j; rw [lane_bit _ _ _ hx, lane_bit _ _ _ hy] at h; have e1 := Nat.testBit_and x y j; have e2 := Nat.testBit_and a b (j - 64); refine Eq.trans h ?_
 split
 · exact e1.symm
 · exact e2.symm
theorem lane_xor (x y a b : Nat) (hx : x < 18446744073709551616) (hy : y < 18446744073709551616) : Nat.xor (x + 18446744073709551616 * a) (y + 18446744073709551616 * b) = Nat.xor x y + 18446744073709551616 * Nat.xor a b := by
 have hz : Nat.xor x y < 18446744073709551616 := Nat.xor_lt_two_pow (n := 64) hx hy; apply Nat.eq_of_testBit_eq; intro j; rw [lane_bit _ _ _ hz]; have h := Nat.testBit_xor (x := x + 18446744073709551616 * a) (y := y + 18446744073709551616 * b) (i := j); rw [lane_bit _ _ _ hx, lane_bit _ _ _ hy] at h; have e1 := Nat.testBit_xor (x := x) (y := y) (i := j); have e2 := Nat.testBit_xor (x := a) (y := b) (i := j - 64); refine Eq.trans h ?_
 split
 · exact e1.symm
 · exact e2.symm
theorem pk_and {β : Type} (f g : β -> Nat) : ∀ L : List β, (∀ s ∈ L, f s < 18446744073709551616) -> (∀ s ∈ L, g s < 18446744073709551616) -> Nat.land (pk (L.map f)) (pk (L.map g)) = pk (L.map fun s => Nat.land (f s) (g s))
  | [], _, _ => by show Nat.land 0 0 = 0; decide
  | s :: L, hf, hg => by
   simp only [List.map_cons, pk]; rw [lane_and _ _ _ _ (hf s List.mem_cons_self) (hg s List.mem_cons_self), pk_and f g L (fun t h => hf t (List.mem_cons_of_mem _ h)) (fun t h => hg t (List.mem_cons_of_mem _ h))]
theorem pk_xor {β : Type} (f g : β -> Nat) : ∀ L : List β, (∀ s ∈ L, f s < 18446744073709551616) -> (∀ s ∈ L, g s < 18446744073709551616) -> Nat.xor (pk (L.map f)) (pk (L.map g)) = pk (L.map fun s => Nat.xor (f s) (g s))
  | [], _, _ => by show Nat.xor 0 0 = 0; decide
  | s :: L, hf, hg => by
   simp only [List.map_cons, pk]; rw [lane_xor _ _ _ _ (hf s List.mem_cons_self) (hg s List.mem_cons_self), pk_xor f g L (fun t h => hf t (List.mem_cons_of_mem _ h)) (fun t h => hg t (List.mem_cons_of_mem _ h))]
theorem low_mask (q : Nat) : Nat.land q 4294967295 = q % 4294967296 := by
 have := Nat.and_two_pow_sub_one_eq_mod q 32; exact this
theorem pk_shr {β : Type} (f : β -> Nat) (k : Nat) (hk : k <= 32) : ∀ L : List β, (∀ s ∈ L, f s < 18446744073709551616) -> Nat.land (Nat.shiftRight (pk (L.map f)) k) (pk (L.map fun _ => 4294967295)) = pk (L.map fun s => f s / 2 ^ k % 4294967296)
  | [], _ => by
   show Nat.land (Nat.shiftRight 0 k) 0 = 0
   exact Nat.and_zero _
  | s :: L, hf => by
   have ih := pk_shr f k hk L (fun t h => hf t (List.mem_cons_of_mem _ h)); have hs := hf s List.mem_cons_self; simp only [List.map_cons, pk]; obtain ⟨a, ha⟩ : ∃ a, a = pk (L.map f) := ⟨_, rfl⟩; obtain ⟨m, hm⟩ : ∃ m, m = pk (L.map fun _ => 4294967295) := ⟨_, rfl⟩; rw [<- ha, <- hm] at ih ⊢; rw [<- ih]; have e1 : Nat.shiftRight (f s + 18446744073709551616 * a) k = (f s + 18446744073709551616 * a) / 2 ^ k := Nat.shiftRight_eq_div_pow _ _; have e2 : Nat.shiftRight a k = a / 2 ^ k := Nat.shiftRight_eq_div_pow _ _; rw [e1, e2]; have hp : 0 < 2 ^ k := Nat.two_pow_pos k; have e3 : 2 ^ k * (2 ^ (32 - k) * 4294967296) = 18446744073709551616 := by
    rw [<- Nat.mul_assoc, <- Nat.pow_add, show k + (32 - k) = 32 by omega]
   have e4 : (f s + 18446744073709551616 * a) / 2 ^ k = f s / 2 ^ k + (2 ^ (32 - k) * a) * 4294967296 := by
    rw [<- e3, Nat.mul_assoc, Nat.add_mul_div_left _ _ hp]
    congr 1
    rw [Nat.mul_assoc, Nat.mul_assoc, Nat.mul_comm 4294967296 a]
   have e5 : (f s + 18446744073709551616 * a) / 2 ^ k / 18446744073709551616 = a / 2 ^ k := by
    rw [Nat.div_div_eq_div_mul, Nat.mul_comm (2 ^ k) 18446744073709551616, <- Nat.div_div_eq_div_mul]
    congr 1
    rw [Nat.add_mul_div_left _ _ (by decide), Nat.div_eq_of_lt hs, Nat.zero_add]
   obtain ⟨q, hq⟩ : ∃ q, q = (f s + 18446744073709551616 * a) / 2 ^ k := ⟨_, rfl⟩; rw [<- hq] at e4 e5 ⊢; rw [<- e5]; have e6 : q = q % 18446744073709551616 + 18446744073709551616 * (q / 18446744073709551616) := (Nat.mod_add_div _ _).symm; have e7 : Nat.land q (4294967295 + 18446744073709551616 * m) = Nat.land (q % 18446744073709551616 + 18446744073709551616 * (q / 18446744073709551616)) (4294967295 + 18446744073709551616 * m) := by rw [<- e6]
   rw [e7, lane_and _ _ _ _ (Nat.mod_lt _ (by decide)) (by decide), low_mask]
   congr 1
   rw [show q % 18446744073709551616 % 4294967296 = q % 4294967296 by omega, e4, Nat.add_mul_mod_self_right]

def RL (L : List Nat) (x : Nat) (f : Nat -> Int) : Prop := (∀ s ∈ L, InW (f s)) ∧ x = pk (L.map fun s => (f s).toNat)
def onesP (L : List Nat) : Nat := pk (L.map fun _ => 1)
def maskP (L : List Nat) : Nat := pk (L.map fun _ => 4294967295)
theorem mask_ones (L : List Nat) : onesP L * 4294967295 = maskP L := by
 unfold onesP maskP; rw [pk_mul]
theorem pk_congr {L : List Nat} {f g : Nat -> Nat} (h : ∀ s ∈ L, f s = g s) : pk (L.map f) = pk (L.map g) := by
 rw [List.map_congr_left h]
theorem inW_lt {x : Int} (h : InW x) : x.toNat < 18446744073709551616 := by unfold InW at h; omega
theorem inW_lt32 {x : Int} (h : InW x) : x.toNat < 4294967296 := by unfold InW at h; omega
theorem xo_nat {a b : Int} (ha : InW a) (hb : InW b) : (xo a b).toNat = Nat.xor a.toNat b.toNat := by
 obtain ⟨a, rfl⟩ := Int.eq_ofNat_of_zero_le ha.1; obtain ⟨b, rfl⟩ := Int.eq_ofNat_of_zero_le hb.1; have ha' : a % 2 ^ 32 = a := Nat.mod_eq_of_lt (by have := ha.2; omega); have hb' : b % 2 ^ 32 = b := Nat.mod_eq_of_lt (by have := hb.2; omega); have hl : a ^^^ b < 2 ^ 32 := Nat.xor_lt_two_pow (by have := ha.2; omega) (by have := hb.2; omega); have he : xo (a : Int) (b : Int) = ((a ^^^ b : Nat) : Int) := by
  unfold xo bits; have hk : IntKind.u32.bits = 32 := rfl; simp only [hk, BitVec.ofInt_natCast, BitVec.toNat_xor, BitVec.toNat_ofNat, ha', hb']; rw [IntKind.wrap_u32]; omega
 have ht : ((a ^^^ b : Nat) : Int).toNat = a ^^^ b := Int.toNat_natCast _; rw [he, ht]; rfl
theorem an_nat {a b : Int} (ha : InW a) (hb : InW b) : (an a b).toNat = Nat.land a.toNat b.toNat := by
 obtain ⟨a, rfl⟩ := Int.eq_ofNat_of_zero_le ha.1; obtain ⟨b, rfl⟩ := Int.eq_ofNat_of_zero_le hb.1; have h := (bits_nat .u32 32 (by decide) (fun n h1 h2 => by rw [IntKind.wrap_u32]; omega) a b (by have := ha.2; omega) (by have := hb.2; omega)).1; unfold an; rw [h]; have ht : ((a &&& b : Nat) : Int).toNat = a &&& b := Int.toNat_natCast _; rw [ht]; rfl
theorem rot_nat {a : Int} (ha : InW a) (k : Nat) (hk : k <= 32) : (rotI a k).toNat = a.toNat * 4294967297 / 2 ^ k % 4294967296 := by
 obtain ⟨a, rfl⟩ := Int.eq_ofNat_of_zero_le ha.1; have ha2 : a < 4294967296 := by have := ha.2; omega
 have hp : 0 < 2 ^ k := Nat.two_pow_pos k; have h1 : a / 2 ^ k < 2 ^ (32 - k) := by
  rw [Nat.div_lt_iff_lt_mul hp, <- Nat.pow_add, show 32 - k + k = 32 by omega]; exact ha2
 have h2 : a / 2 ^ k < 2 ^ 32 := Nat.lt_of_le_of_lt (Nat.div_le_self _ _) ha2; have e3 : 2 ^ k * 2 ^ (32 - k) = 4294967296 := by rw [<- Nat.pow_add, show k + (32 - k) = 32 by omega]
 have e4 : a * 4294967297 / 2 ^ k = a / 2 ^ k + 2 ^ (32 - k) * a := by
  have : a * 4294967297 = a + 2 ^ k * (2 ^ (32 - k) * a) := by rw [<- Nat.mul_assoc, e3]; omega
  rw [this, Nat.add_mul_div_left _ _ hp]
 have e5 : 2 ^ (32 - k) * a % 4294967296 = 2 ^ (32 - k) * (a % 2 ^ k) := by
  rw [<- e3, Nat.mul_comm (2 ^ k), Nat.mul_mod_mul_left]
 have h3 : a % 2 ^ k < 2 ^ k := Nat.mod_lt _ hp; have e6 : (a / 2 ^ k + 2 ^ (32 - k) * a) % 4294967296 = 2 ^ (32 - k) * (a % 2 ^ k) + a / 2 ^ k := by
  rw [Nat.add_mod, e5, Nat.mod_add_mod]; rw [Nat.mod_eq_of_lt, Nat.add_comm]; have : 2 ^ (32 - k) * (a % 2 ^ k) + 2 ^ (32 - k) <= 2 ^ (32 - k) * 2 ^ k := by
   rw [<- Nat.mul_succ]; exact Nat.mul_le_mul_left _ h3
  rw [Nat.mul_comm _ (2 ^ k), e3] at this; omega
 have e7 := Nat.two_pow_add_eq_or_of_lt h1 (a % 2 ^ k); have e8 : IntKind.u32.wrap (((a : Nat) : Int) * 2 ^ (32 - k)) = ((2 ^ (32 - k) * (a % 2 ^ k) : Nat) : Int) := by
  rw [IntKind.wrap_u32, <- e5, Int.natCast_emod, Int.natCast_mul, Int.natCast_pow, Int.mul_comm]; rfl
 have e9 : ((a : Nat) : Int) / 2 ^ k = ((a / 2 ^ k : Nat) : Int) := by rw [Int.natCast_ediv, Int.natCast_pow]; rfl
 have hlt : 2 ^ (32 - k) * (a % 2 ^ k) < 2 ^ 32 := by rw [<- e5]; exact Nat.mod_lt _ (by decide)
 have h := (bits_nat .u32 32 (by decide) (fun n h1 h2 => by rw [IntKind.wrap_u32]; omega) (a / 2 ^ k) (2 ^ (32 - k) * (a % 2 ^ k)) h2 hlt).2; unfold rotI; rw [e8, e9, h]; have ht : ((a / 2 ^ k ||| 2 ^ (32 - k) * (a % 2 ^ k) : Nat) : Int).toNat = a / 2 ^ k ||| 2 ^ (32 - k) * (a % 2 ^ k) := Int.toNat_natCast _
 have ht2 : ((a : Nat) : Int).toNat = a := Int.toNat_natCast _; rw [ht, ht2, e4, e6, e7, Nat.or_comm]
section
variable {L : List Nat} {x y : Nat} {f g : Nat -> Int}
theorem RL.xor (h : RL L x f) (k : RL L y g) : RL L (Nat.xor x y) (fun s => xo (f s) (g s)) := by
 refine ⟨fun s hs => bits_in _ _ _, ?_⟩; rw [h.2, k.2, pk_xor _ _ _ (fun s hs => inW_lt (h.1 s hs)) (fun s hs => inW_lt (k.1 s hs))]; exact pk_congr fun s hs => (xo_nat (h.1 s hs) (k.1 s hs)).symm
theorem RL.and (h : RL L x f) (k : RL L y g) : RL L (Nat.land x y) (fun s => an (f s) (g s)) := by
 refine ⟨fun s hs => bits_in _ _ _, ?_⟩; rw [h.2, k.2, pk_and _ _ _ (fun s hs => inW_lt (h.1 s hs)) (fun s hs => inW_lt (k.1 s hs))]; exact pk_congr fun s hs => (an_nat (h.1 s hs) (k.1 s hs)).symm
def rotP (M x k : Nat) : Nat := Nat.land (Nat.shiftRight (Nat.mul x 4294967297) k) M
def shrP (M x k : Nat) : Nat := Nat.land (Nat.shiftRight x k) M
theorem RL.rot (h : RL L x f) (k : Nat) (hk : k <= 32) : RL L (rotP (maskP L) x k) (fun s => rotI (f s) k) := by
 refine ⟨fun s hs => rot_in _ _, ?_⟩; unfold rotP; have e : Nat.mul x 4294967297 = pk (L.map fun s => (f s).toNat * 4294967297) := by rw [h.2]; exact pk_mul _ _ _
 rw [e]; unfold maskP; rw [pk_shr _ k hk L (fun s hs => by have := inW_lt32 (h.1 s hs); omega)]; exact pk_congr fun s hs => (rot_nat (h.1 s hs) k hk).symm
theorem RL.shr (h : RL L x f) (k : Nat) (hk : k <= 32) : RL L (shrP (maskP L) x k) (fun s => f s / 2 ^ k) := by
 have hw : ∀ s ∈ L, InW (f s / 2 ^ k) := fun s hs => by
  have h1 := (h.1 s hs).1; have h2 := (h.1 s hs).2; refine ⟨Int.ediv_nonneg h1 (Int.le_of_lt (Int.pow_pos (by decide))), Int.lt_of_le_of_lt (Int.ediv_le_self _ h1) h2⟩
 refine ⟨hw, ?_⟩; unfold shrP maskP; rw [h.2, pk_shr _ k hk L (fun s hs => inW_lt (h.1 s hs))]; refine pk_congr fun s hs => ?_
 obtain ⟨a, ha⟩ := Int.eq_ofNat_of_zero_le (h.1 s hs).1; have h2 := inW_lt32 (h.1 s hs)
 show _ = (f s / 2 ^ k).toNat
 rw [ha] at h2 ⊢; have e9 : ((a : Nat) : Int) / 2 ^ k = ((a / 2 ^ k : Nat) : Int) := by rw [Int.natCast_ediv, Int.natCast_pow]; rfl
 rw [e9, Int.toNat_natCast, Int.toNat_natCast, Nat.mod_eq_of_lt]; exact Nat.lt_of_le_of_lt (Nat.div_le_self _ _) (by rw [Int.toNat_natCast] at h2; exact h2)
theorem RL.const (c : Nat) (hc : c < 4294967296) : RL L (Nat.mul c (onesP L)) (fun _ => (c : Int)) := by
 refine ⟨fun s hs => ⟨Int.natCast_nonneg _, by show (c : Int) < _; omega⟩, ?_⟩; have : Nat.mul c (onesP L) = onesP L * c := Nat.mul_comm _ _; rw [this]; unfold onesP; rw [pk_mul]; exact pk_congr fun s hs => by rw [Nat.one_mul, Int.toNat_natCast]
def RS (L : List Nat) (x : Nat) (f : Nat -> Int) (m : Nat) : Prop := (∀ s ∈ L, 0 <= f s ∧ f s < m * 4294967296) ∧ x = pk (L.map fun s => (f s).toNat)
theorem RL.sum (h : RL L x f) : RS L x f 1 := ⟨fun s hs => by have := h.1 s hs; unfold InW at this; omega, h.2⟩
theorem RS.add {m : Nat} (h : RS L x f m) (k : RL L y g) : RS L (Nat.add x y) (fun s => f s + g s) (m + 1) := by
 refine ⟨fun s hs => ?_, ?_⟩
 · have h1 := h.1 s hs; have h2 := k.1 s hs; unfold InW at h2
   show 0 <= f s + g s ∧ f s + g s < _
   rw [Int.natCast_add, Int.add_mul]; omega
 · have : Nat.add x y = x + y := rfl; rw [this, h.2, k.2, pk_add]; exact pk_congr fun s hs => by have h1 := h.1 s hs; have h2 := k.1 s hs; unfold InW at h2; show _ = (f s + g s).toNat; omega
theorem RS.mask {m : Nat} (h : RS L x f m) (hm : m <= 16) : RL L (Nat.land x (maskP L)) (fun s => w32 (f s)) := by
 refine ⟨fun s hs => w32_in _, ?_⟩; unfold maskP; have hb : ∀ s ∈ L, (f s).toNat < 18446744073709551616 := fun s hs => by
  have h1 := h.1 s hs; have h2 : (m : Int) * 4294967296 <= 16 * 4294967296 := Int.mul_le_mul_of_nonneg_right (by omega) (by decide); omega
 rw [h.2, pk_and _ _ _ hb (fun _ _ => by decide)]; refine pk_congr fun s hs => ?_
 have h1 := h.1 s hs
 show _ = (w32 (f s)).toNat
 rw [low_mask]; unfold w32; omega
end
def sg0P (M x : Nat) : Nat := Nat.xor (Nat.xor (rotP M x 7) (rotP M x 18)) (shrP M x 3)
def sg1P (M x : Nat) : Nat := Nat.xor (Nat.xor (rotP M x 17) (rotP M x 19)) (shrP M x 10)
def bs0P (M x : Nat) : Nat := Nat.xor (Nat.xor (rotP M x 2) (rotP M x 13)) (rotP M x 22)
def bs1P (M x : Nat) : Nat := Nat.xor (Nat.xor (rotP M x 6) (rotP M x 11)) (rotP M x 25)
def chP (M e f g : Nat) : Nat := Nat.xor (Nat.land e f) (Nat.land (Nat.xor M e) g)
def majP (a b c : Nat) : Nat := Nat.xor (Nat.xor (Nat.land a b) (Nat.land a c)) (Nat.land b c)
section
variable {L : List Nat} {x y z : Nat} {f g h : Nat -> Int}
theorem RL.sg0 (k : RL L x f) : RL L (sg0P (maskP L) x) (fun s => sg0 (f s)) := by
 have h := k.shr 3 (by decide); rw [show ((2 : Int) ^ 3) = 8 by decide] at h; exact ((k.rot 7 (by decide)).xor (k.rot 18 (by decide))).xor h
theorem RL.sg1 (k : RL L x f) : RL L (sg1P (maskP L) x) (fun s => sg1 (f s)) := by
 have h := k.shr 10 (by decide); rw [show ((2 : Int) ^ 10) = 1024 by decide] at h; exact ((k.rot 17 (by decide)).xor (k.rot 19 (by decide))).xor h
theorem RL.bs0 (k : RL L x f) : RL L (bs0P (maskP L) x) (fun s => bs0 (f s)) := ((k.rot 2 (by decide)).xor (k.rot 13 (by decide))).xor (k.rot 22 (by decide))
theorem RL.bs1 (k : RL L x f) : RL L (bs1P (maskP L) x) (fun s => bs1 (f s)) := ((k.rot 6 (by decide)).xor (k.rot 11 (by decide))).xor (k.rot 25 (by decide))
theorem in_full : InW 4294967295 := by unfold InW; decide
theorem in_zero : InW 0 := by unfold InW; decide
theorem RL.full : RL L (maskP L) (fun _ => 4294967295) := ⟨fun _ _ => in_full, rfl⟩
theorem RL.ch (k : RL L x f) (l : RL L y g) (m : RL L z h) : RL L (chP (maskP L) x y z) (fun s => chI (f s) (g s) (h s)) := (k.and l).xor ((RL.full.xor k).and m)
theorem RL.maj (k : RL L x f) (l : RL L y g) (m : RL L z h) : RL L (majP x y z) (fun s => majI (f s) (g s) (h s)) := ((k.and l).xor (k.and m)).xor (l.and m)
end
def nextP (M : Nat) (l : List Nat) : Nat := Nat.land (Nat.add (Nat.add (Nat.add (sg1P M (l.getD 1 0)) (l.getD 6 0)) (sg0P M (l.getD 14 0))) (l.getD 15 0)) M
def schedP {α : Type} (M : Nat) (K : List Nat -> α) : Nat -> List Nat -> α
 | 0, l => K l
 | n + 1, l => forceN (nextP M l) fun x => schedP M K n (x :: l)
def RLs (L : List Nat) (n : Nat) (l : List Nat) (F : Nat -> List Int) : Prop := (∀ s, (F s).length = n) ∧ ∀ i, i < n -> RL L (l.getD (n - 1 - i) 0) (fun s => wAt (F s) i)
theorem wAt_old {l : List Int} {x : Int} {i n : Nat} (hn : l.length = n) (hi : i < n) : wAt (l ++ [x]) i = wAt l i := by
 unfold wAt; rw [List.getD, List.getD, List.getElem?_append_left (by omega)]
theorem wAt_new {l : List Int} {x : Int} {n : Nat} (hn : l.length = n) : wAt (l ++ [x]) n = x := by
 unfold wAt; rw [List.getD, List.getElem?_append_right (by omega), hn]; simp
theorem nextP_any {L : List Nat} {l : List Nat} {f1 f6 f14 f15 : Nat -> Int} (h1 : RL L (l.getD 1 0) f1) (h2 : RL L (l.getD 6 0) f6) (h3 : RL L (l.getD 14 0) f14) (h4 : RL L (l.getD 15 0) f15) : RL L (nextP (maskP L) l) (fun s => w32 (sg1 (f1 s) + f6 s + sg0 (f14 s) + f15 s)) := by
 unfold nextP; exact (((h1.sg1.sum.add h2).add h3.sg0).add h4).mask (by decide)
theorem RLs.next {L : List Nat} {n : Nat} {l : List Nat} {B : Nat -> List UInt8} (hn : 16 <= n) (h : RLs L n l (fun s => sched (B s) n)) : RLs L (n + 1) (nextP (maskP L) l :: l) (fun s => sched (B s) (n + 1)) := by
 refine ⟨fun s => sched_len _ _, fun i hi => ?_⟩
 by_cases e : i = n
 · subst e; rw [show i + 1 - 1 - i = 0 by omega]; have h1 := h.2 (i - 2) (by omega); have h2 := h.2 (i - 7) (by omega); have h3 := h.2 (i - 15) (by omega); have h4 := h.2 (i - 16) (by omega); rw [show i - 1 - (i - 2) = 1 by omega] at h1; rw [show i - 1 - (i - 7) = 6 by omega] at h2; rw [show i - 1 - (i - 15) = 14 by omega] at h3; rw [show i - 1 - (i - 16) = 15 by omega] at h4; have hr := nextP_any h1 h2 h3 h4; have e : (fun s => wAt (sched (B s) (i + 1)) i) = fun s => w32 (sg1 (wAt (sched (B s) i) (i - 2)) + wAt (sched (B s) i) (i - 7) + sg0 (wAt (sched (B s) i) (i - 15)) + wAt (sched (B s) i) (i - 16)) := by
    funext s
    rw [sched, wAt_new (sched_len _ _), nextW, if_neg (by omega)]
   rw [e, List.getD_cons_zero]; exact hr
 · have hi' : i < n := by omega
   rw [show n + 1 - 1 - i = (n - 1 - i) + 1 by omega, List.getD_cons_succ]; have e2 : (fun s => wAt (sched (B s) (n + 1)) i) = fun s => wAt (sched (B s) n) i := by
    funext s
    rw [sched, wAt_old (sched_len _ _) hi']
   rw [e2]; exact h.2 i hi'
theorem schedP_any {α : Type} (L : List Nat) (B : Nat -> List UInt8) (K : List Nat -> α) (Q : α -> Prop) : ∀ (r n : Nat) (l : List Nat), 16 <= n -> RLs L n l (fun s => sched (B s) n) -> (∀ l', RLs L (n + r) l' (fun s => sched (B s) (n + r)) -> Q (K l')) -> Q (schedP (maskP L) K r l)
  | 0, n, l, hn, h, hK => hK l h
  | r + 1, n, l, hn, h, hK => by
   rw [schedP, forceN_eq]; refine schedP_any L B K Q r (n + 1) _ (by omega) (h.next hn) (fun l' h' => hK l' ?_); rw [show n + (r + 1) = n + 1 + r by omega]; exact h'
def kRev : List Nat := [3329325298, 3204031479, 2756734187, 2428436474, 2361852424, 2227730452, 2024104815, 1955562222, 1747873779, 1537002063, 1322822218, 958139571, 883997877, 659060556, 506948616, 430227734, 275423344, 4094571909, 3600352804, 3516065817, 3345764771, 3259730800, 2820302411, 2730485921, 2456956037, 2177026350, 1986661051, 1695183700, 1396182291, 1294757372, 773529912, 666307205, 338241895, 113926993, 3584528711, 3336571891, 3210313671, 2952996808, 2821834349, 2554220882, 1996064986, 1555081692, 1249150122, 770255983, 604807628, 264347078, 4022224774, 3835390401, 3248222580, 2614888103, 2162078206, 1925078388, 1426881987, 607225278, 310598401, 3624381080, 2870763221, 2453635748, 1508970993, 961987163, 3921009573, 3049323471, 1899447441, 1116352408]
theorem kRev_at : ∀ r, r < 64 -> kRev.getD r 0 < 4294967296 ∧ wAt kTab (63 - r) = ((kRev.getD r 0 : Nat) : Int) := by
 have h : (List.range 64).all (fun r => decide (kRev.getD r 0 < 4294967296 ∧ wAt kTab (63 - r) = ((kRev.getD r 0 : Nat) : Int))) = true := by decide +kernel
 intro r hr; have := List.all_eq_true.1 h r (List.mem_range.2 hr); exact of_decide_eq_true this
def roundsP (M U : Nat) (ws : List Nat) : Nat -> Nat -> Nat -> Nat -> Nat -> Nat -> Nat -> Nat -> Nat -> Nat
 | 0, a, _, _, _, _, _, _, _ => a
 | r + 1, a, b, c, d, e, f, g, h =>
  forceN (Nat.land (Nat.add (Nat.add (Nat.add (Nat.add h (bs1P M e)) (chP M e f g)) (Nat.mul (kRev.getD r 0) U)) (ws.getD r 0)) M) fun t1 =>
  forceN (Nat.land (Nat.add (bs0P M a) (majP a b c)) M) fun t2 =>
  forceN (Nat.land (Nat.add t1 t2) M) fun a' =>
  forceN (Nat.land (Nat.add d t1) M) fun e' => roundsP M U ws r a' a b c e' e f g
structure RSt (L : List Nat) (a b c d e f g h : Nat) (S : Nat -> St) : Prop where
 a : RL L a (fun s => (S s).a)
 b : RL L b (fun s => (S s).b)
 c : RL L c (fun s => (S s).c)
 d : RL L d (fun s => (S s).d)
 e : RL L e (fun s => (S s).e)
 f : RL L f (fun s => (S s).f)
 g : RL L g (fun s => (S s).g)
 h : RL L h (fun s => (S s).h)
theorem roundsP_any (L : List Nat) (ws : List Nat) (F : Nat -> List Int) (hw : RLs L 64 ws F) : ∀ (r a b c d e f g h : Nat), r <= 64 -> RSt L a b c d e f g h (fun s => rounds firstS (F s) (64 - r)) -> RL L (roundsP (maskP L) (onesP L) ws r a b c d e f g h) (fun s => (rounds firstS (F s) 64).a)
  | 0, a, b, c, d, e, f, g, h, _, hS => hS.a
  | r + 1, a, b, c, d, e, f, g, h, hr, hS => by
   rw [roundsP, forceN_eq, forceN_eq, forceN_eq, forceN_eq]; have k1 := kRev_at r (by omega); have hk : RL L (Nat.mul (kRev.getD r 0) (onesP L)) (fun _ => wAt kTab (63 - r)) := by rw [k1.2]; exact RL.const _ k1.1
   have hwr := hw.2 (63 - r) (by omega); rw [show 64 - 1 - (63 - r) = r by omega] at hwr; have t1 := ((((hS.h.sum.add hS.e.bs1).add (hS.e.ch hS.f hS.g)).add hk).add hwr).mask (by decide); have t2 := (hS.a.bs0.sum.add (hS.a.maj hS.b hS.c)).mask (by decide); have a' := (t1.sum.add t2).mask (by decide); have e' := (hS.d.sum.add t1).mask (by decide); have en : 64 - r = (63 - r) + 1 := by omega
   have en2 : 64 - (r + 1) = 63 - r := by omega
   rw [en2] at hS t1 t2 a' e'; refine roundsP_any L ws F hw r _ _ _ _ _ _ _ _ (by omega) ?_; rw [en]; exact ⟨a', hS.a, hS.b, hS.c, e', hS.e, hS.f, hS.g⟩

def blkN (s : Nat) : List UInt8 := putL s 8 ++ putL 0 4 ++ padL 12 12
theorem byteAt_left (l m : List UInt8) (i : Nat) (h : i < l.length) : byteAt (l ++ m) i = byteAt l i := by
 unfold byteAt; rw [List.getD, List.getD, List.getElem?_append_left h]
def wordN (s i : Nat) : Nat := if i = 0 then s / 4294967296 else if i = 1 then s % 4294967296 else if i = 3 then 2147483648 else if i = 15 then 96 else 0
theorem byteAt_right (l m : List UInt8) (i : Nat) : byteAt (l ++ m) (l.length + i) = byteAt m i := by
 unfold byteAt; rw [List.getD, List.getD, List.getElem?_append_right (by omega), Nat.add_sub_cancel_left]
def tailN : List UInt8 := putL 0 4 ++ padL 12 12
theorem tailN_word : (List.range 14).all (fun j => decide (wordAt tailN j = ((wordN 0 (j + 2) : Nat) : Int))) = true := by decide +kernel
theorem blkN_word (s : Nat) (hs : s < 18446744073709551616) (i : Nat) (hi : i < 16) : wordAt (blkN s) i = ((wordN s i : Nat) : Int) := by
 have e8 : ∀ v, (UInt8.ofNat v).toNat = v % 256 := fun v => by simp
 have eb : blkN s = putL s 8 ++ tailN := by unfold blkN tailN; rw [List.append_assoc]
 have hl : (putL s 8).length = 8 := putL_length _ _; rw [eb]; have hr : ∀ j, byteAt (putL s 8 ++ tailN) (8 + j) = byteAt tailN j := fun j => by rw [<- byteAt_right (putL s 8) tailN j, hl]
 rcases Nat.lt_or_ge i 2 with h2 | h2
 · have e : wordAt (putL s 8 ++ tailN) i = wordAt (putL s 8) i := by
     unfold wordAt; rw [byteAt_left _ _ _ (by omega), byteAt_left _ _ _ (by omega), byteAt_left _ _ _ (by omega), byteAt_left _ _ _ (by omega)]
   rw [e]; rcases (show i = 0 ∨ i = 1 by omega) with rfl | rfl
   · simp [wordAt, byteAt, putL, wordN]; omega
   · simp [wordAt, byteAt, putL, wordN]; omega
 · obtain ⟨j, rfl⟩ : ∃ j, i = j + 2 := ⟨i - 2, by omega⟩; have e : wordAt (putL s 8 ++ tailN) (j + 2) = wordAt tailN j := by
    unfold wordAt; rw [show 4 * (j + 2) = 8 + 4 * j by omega, show 8 + 4 * j + 1 = 8 + (4 * j + 1) by omega, show 8 + 4 * j + 2 = 8 + (4 * j + 2) by omega, show 8 + 4 * j + 3 = 8 + (4 * j + 3) by omega, hr, hr, hr, hr]
   have h := List.all_eq_true.1 tailN_word j (List.mem_range.2 (by omega)); rw [e, of_decide_eq_true h]; have e9 : wordN 0 (j + 2) = wordN s (j + 2) := by simp [wordN]
   exact congrArg (fun n : Nat => (n : Int)) e9
def shaP (U M w0 w1 : Nat) : Nat :=
 schedP M (fun ws => forceN (roundsP M U ws 64 (Nat.mul 1779033703 U) (Nat.mul 3144134277 U) (Nat.mul 1013904242 U) (Nat.mul 2773480762 U) (Nat.mul 1359893119 U) (Nat.mul 2600822924 U) (Nat.mul 528734635 U) (Nat.mul 1541459225 U)) fun a => Nat.land (Nat.add (Nat.mul 1779033703 U) a) M) 48
   [Nat.mul 96 U, 0, 0, 0, 0, 0, 0, 0, 0, 0, 0, 0, Nat.mul 2147483648 U, 0, w1, w0]
theorem zeroP (L : List Nat) : RL L 0 (fun _ => 0) := by
 refine ⟨fun _ _ => in_zero, ?_⟩
 induction L with
 | nil => rfl
 | cons s L ih => simp only [List.map_cons, pk]; rw [<- ih]; rfl
theorem shaP_any (L : List Nat) (hL : ∀ s ∈ L, s < 18446744073709551616) : RL L (shaP (onesP L) (maskP L) (pk (L.map (· / 4294967296))) (pk (L.map (· % 4294967296)))) (fun s => (blk firstS (blkN s)).a) := by
 unfold shaP; have key : ∀ i, i < 16 -> ∀ x, (RL L x (fun s => ((wordN s i : Nat) : Int))) -> RL L x (fun s => wAt (sched (blkN s) 16) i) := fun i hi x h => by
  refine ⟨fun s hs => wAt_in (sched_in _ _) _, ?_⟩; rw [h.2]; refine pk_congr fun s hs => ?_
  show _ = (wAt (sched (blkN s) 16) i).toNat
  rw [sched_at _ i 16 hi, nextW, if_pos hi, blkN_word s (hL s hs) i hi]
 refine schedP_any L blkN _ (fun a => RL L a (fun s => (blk firstS (blkN s)).a)) 48 16 _ (by decide) ⟨fun s => sched_len _ _, fun i hi => ?_⟩ ?_
 · refine key i hi _ ?_
   match i, hi with
   | 0, _ => exact ⟨fun s hs => by have := hL s hs; show InW ((s / 4294967296 : Nat) : Int); unfold InW; omega, by apply pk_congr; intro s hs; show s / 4294967296 = (((s / 4294967296 : Nat) : Int)).toNat; omega⟩
   | 1, _ => exact ⟨fun s hs => by have := hL s hs; show InW ((s % 4294967296 : Nat) : Int); unfold InW; omega, by apply pk_congr; intro s hs; show s % 4294967296 = (((s % 4294967296 : Nat) : Int)).toNat; omega⟩
   | 2, _ => exact zeroP L
   | 3, _ => exact RL.const 2147483648 (by decide)
   | 4, _ => exact zeroP L
   | 5, _ => exact zeroP L
   | 6, _ => exact zeroP L
   | 7, _ => exact zeroP L
   | 8, _ => exact zeroP L
   | 9, _ => exact zeroP L
   | 10, _ => exact zeroP L
   | 11, _ => exact zeroP L
   | 12, _ => exact zeroP L
   | 13, _ => exact zeroP L
   | 14, _ => exact zeroP L
   | 15, _ => exact RL.const 96 (by decide)
   | i + 16, h => omega
 · intro ws hws; rw [forceN_eq]; have hr := roundsP_any L ws _ hws 64 (Nat.mul 1779033703 (onesP L)) (Nat.mul 3144134277 (onesP L)) (Nat.mul 1013904242 (onesP L)) (Nat.mul 2773480762 (onesP L)) (Nat.mul 1359893119 (onesP L)) (Nat.mul 2600822924 (onesP L)) (Nat.mul 528734635 (onesP L)) (Nat.mul 1541459225 (onesP L)) (Nat.le_refl _) ⟨RL.const 1779033703 (by decide), RL.const 3144134277 (by decide), RL.const 1013904242 (by decide), RL.const 2773480762 (by decide), RL.const 1359893119 (by decide), RL.const 2600822924 (by decide), RL.const 528734635 (by decide), RL.const 1541459225 (by decide)⟩; exact ((RL.const (L := L) 1779033703 (by decide)).sum.add hr).mask (by decide)
theorem sum_first (s : Nat) : (sumL (putL s 8 ++ putL 0 4)).take 4 = putL (blk firstS (blkN s)).a.toNat 4 := by
 have hl : (putL s 8 ++ putL 0 4).length = 12 := by rw [List.length_append, putL_length, putL_length]
 generalize hB : putL s 8 ++ putL 0 4 = B at hl ⊢
 have hbk : blkN s = B ++ padL 12 12 := by unfold blkN; rw [hB]
 have hpl := padL_length 12 12 (by decide)
 generalize hP : padL 12 12 = P at hbk hpl
 have hb : blocksL firstS (B ++ P) 1 = blk firstS (blkN s) := by
  rw [blocksL, blocksL, Nat.mul_zero, List.drop_zero, List.take_of_length_le]
  · rw [hbk]
  · rw [List.length_append, hl, hpl]; decide
 unfold sumL wholeS restL finL; rw [hl]; have h0 : 12 / 64 = 0 := rfl; rw [h0, Nat.mul_zero, List.drop_zero, hl, if_pos (by decide), hP, blocksL, hb]; unfold outL; simp only [List.append_assoc]; rw [List.take_append_of_le_length (by rw [putL_length]; omega), List.take_of_length_le (by rw [putL_length]; omega)]
def aN (s : Nat) : Nat := (blk firstS (blkN s)).a.toNat
theorem aN_lt (s : Nat) : aN s < 4294967296 := inW_lt32 (blk_in _ _).1
def chunkP {α : Type} (s n : Nat) (K : List Nat -> Nat -> α) : α :=
 forceN (onesP (List.range' s n)) fun U => forceN (Nat.mul U 4294967295) fun M => forceN (pk ((List.range' s n).map (· / 4294967296))) fun w0 => forceN (pk ((List.range' s n).map (· % 4294967296))) fun w1 => forceN (shaP U M w0 w1) fun x => K (List.range' s n) x
theorem chunkP_eq {α : Type} (s n : Nat) (h : s + n <= 18446744073709551616) (K : List Nat -> Nat -> α) : chunkP s n K = K (List.range' s n) (pk ((List.range' s n).map aN)) := by
 unfold chunkP; rw [forceN_eq, forceN_eq, forceN_eq, forceN_eq, forceN_eq]; have hm : Nat.mul (onesP (List.range' s n)) 4294967295 = maskP (List.range' s n) := mask_ones _; have hr := (shaP_any (List.range' s n) (fun t ht => by have := List.mem_range'_1.1 ht; omega)).2; rw [hm, hr]; rfl
def allP (p : Nat -> Bool) : List Nat -> Nat -> Bool
 | [], _ => true
 | _ :: L, x => and (p (Nat.land x 4294967295)) (forceN (Nat.shiftRight x 64) (allP p L))
theorem lane_low (x a : Nat) (hx : x < 4294967296) : Nat.land (x + 18446744073709551616 * a) 4294967295 = x := by rw [low_mask]; omega
theorem lane_high (x a : Nat) (hx : x < 4294967296) : Nat.shiftRight (x + 18446744073709551616 * a) 64 = a := by
 have h : Nat.shiftRight (x + 18446744073709551616 * a) 64 = (x + 18446744073709551616 * a) / 2 ^ 64 := Nat.shiftRight_eq_div_pow _ _; rw [h]; omega
theorem allP_any (p : Nat -> Bool) (f : Nat -> Nat) (hf : ∀ s, f s < 4294967296) : ∀ L : List Nat, allP p L (pk (L.map f)) = true -> ∀ s ∈ L, p (f s) = true
 | [], _, s, hs => by simp at hs
 | t :: L, h, s, hs => by
  rw [List.map_cons, pk, allP, forceN_eq, lane_low _ _ (hf t), lane_high _ _ (hf t), Bool.and_eq_true] at h; rcases List.mem_cons.1 hs with rfl | hs
  · exact h.1
  · exact allP_any p f hf L h.2 s hs
def setP : List Nat -> Nat -> Nat -> Nat
 | [], _, acc => acc
 | _ :: L, x, acc => forceN (Nat.lor acc (Nat.shiftLeft 1 (Nat.mod (Nat.land x 4294967295) 314423))) fun a => forceN (Nat.shiftRight x 64) fun y => setP L y a
def inP (acc v : Nat) : Bool := Nat.beq (Nat.land 1 (Nat.shiftRight acc (Nat.mod v 314423))) 1
theorem inP_eq (acc v : Nat) : inP acc v = acc.testBit (v % 314423) := by
 have h : Nat.land 1 (Nat.shiftRight acc (Nat.mod v 314423)) = 1 &&& (acc >>> (v % 314423)) := rfl; unfold inP Nat.testBit; rw [h]; have h2 := Nat.and_two_pow_sub_one_eq_mod (acc >>> (v % 314423)) 1; rw [Nat.and_comm] at h2; have h3 : 1 &&& (acc >>> (v % 314423)) = acc >>> (v % 314423) % 2 := h2; rw [h3]; rcases Nat.mod_two_eq_zero_or_one (acc >>> (v % 314423)) with e | e <;> rw [e] <;> rfl
theorem setP_any (f : Nat -> Nat) (hf : ∀ s, f s < 4294967296) : ∀ (L : List Nat) (acc : Nat), (∀ v, inP acc v = true -> inP (setP L (pk (L.map f)) acc) v = true) ∧ ∀ s ∈ L, inP (setP L (pk (L.map f)) acc) (f s) = true
 | [], acc => ⟨fun v h => h, fun s hs => by simp at hs⟩
 | t :: L, acc => by
  have e : setP (t :: L) (pk ((t :: L).map f)) acc = setP L (pk (L.map f)) (Nat.lor acc (Nat.shiftLeft 1 (Nat.mod (f t) 314423))) := by
   rw [List.map_cons, pk, setP, forceN_eq, forceN_eq, lane_low _ _ (hf t), lane_high _ _ (hf t)]
  have ih := setP_any f hf L (Nat.lor acc (Nat.shiftLeft 1 (Nat.mod (f t) 314423))); have hl : ∀ v, inP (Nat.lor acc (Nat.shiftLeft 1 (Nat.mod (f t) 314423))) v = (inP acc v || decide (f t % 314423 = v % 314423)) := fun v => by
   rw [inP_eq, inP_eq]; have h1 : Nat.lor acc (Nat.shiftLeft 1 (Nat.mod (f t) 314423)) = acc ||| (1 <<< (f t % 314423)) := rfl
   rw [h1, Nat.testBit_or, Nat.one_shiftLeft, Nat.testBit_two_pow]
  rw [e]; refine ⟨fun v h => ih.1 v (by rw [hl, h]; rfl), fun s hs => ?_⟩; rcases List.mem_cons.1 hs with rfl | hs
  · exact ih.1 _ (by rw [hl]; simp)
  · exact ih.2 s hs
def setB : Nat := chunkP 5000 250 fun L x => forceN (setP L x 0) fun a => chunkP 5250 250 fun L x => forceN (setP L x a) fun a => chunkP 5500 250 fun L x => forceN (setP L x a) fun a => chunkP 5750 250 fun L x => setP L x a
theorem setB_in (s : Nat) (h1 : 5000 <= s) (h2 : s < 6000) : inP setB (aN s) = true := by
 unfold setB; simp only [forceN_eq]; rw [chunkP_eq _ _ (by decide), chunkP_eq _ _ (by decide), chunkP_eq _ _ (by decide), chunkP_eq _ _ (by decide)]; have k := fun L acc => setP_any aN aN_lt L acc
 rcases (show s < 5250 ∨ 5250 <= s ∧ s < 5500 ∨ 5500 <= s ∧ s < 5750 ∨ 5750 <= s by omega) with h | h | h | h
 · exact (k _ _).1 _ ((k _ _).1 _ ((k _ _).1 _ ((k _ _).2 s (List.mem_range'_1.2 (by omega)))))
 · exact (k _ _).1 _ ((k _ _).1 _ ((k _ _).2 s (List.mem_range'_1.2 (by omega))))
 · exact (k _ _).1 _ ((k _ _).2 s (List.mem_range'_1.2 (by omega)))
 · exact (k _ _).2 s (List.mem_range'_1.2 (by omega))
def outB (b s : Nat) : Bool := chunkP s 250 fun L x => allP (fun v => not (inP b v)) L x
theorem outB_any (s t : Nat) (h : s + 250 <= 18446744073709551616) (hb : outB setB s = true) (h1 : s <= t) (h2 : t < s + 250) : inP setB (aN t) = false := by
 unfold outB at hb; rw [chunkP_eq _ _ h] at hb; have := allP_any _ aN aN_lt _ hb t (List.mem_range'_1.2 (by omega))
 simpa using this
def allOut : List Nat -> Nat -> Bool
 | [], _ => true
 | s :: l, b => and (outB b s) (allOut l b)
def starts : List Nat := [18446744073709550616, 18446744073709550866, 18446744073709551116, 18446744073709551366, 0, 250, 500, 750, 1000, 1250, 1500, 1750]
theorem all_out : forceN setB (allOut starts) = true := by kernel_rfl
theorem allOut_cons (s : Nat) (l : List Nat) (b : Nat) : allOut (s :: l) b = and (outB b s) (allOut l b) := rfl
theorem allOut_any (l : List Nat) (b : Nat) : allOut l b = true -> ∀ s, s ∈ l -> outB b s = true := by
 induction l with
 | nil => intro _ s hs; simp at hs
 | cons t l ih =>
  intro h s hs; rw [allOut_cons] at h
  generalize hx : outB b t = x at h
  generalize hy : allOut l b = y at h
  cases x <;> cases y <;> first | (cases h; done) | skip
  rcases List.mem_cons.1 hs with e | hs
  · rw [e]; exact hx
  · exact ih hy s hs
theorem aN_apart (s t : Nat) (hs : s < 2000 ∨ 18446744073709550616 <= s ∧ s < 18446744073709551616) (h1 : 5000 <= t) (h2 : t < 6000) : aN s ≠ aN t := by
 intro e; have hb := all_out; rw [forceN_eq] at hb; have ha := allOut_any _ _ hb; have hin := setB_in t h1 h2; rw [<- e] at hin; have key : ∀ c, c ∈ starts -> c + 250 <= 18446744073709551616 -> c <= s -> s < c + 250 -> False := fun c hc h3 h4 h5 => by
  have := outB_any c s h3 (ha c hc) h4 h5; rw [this] at hin; cases hin
 rcases hs with hs | hs
 · rcases (show s < 250 ∨ 250 <= s ∧ s < 500 ∨ 500 <= s ∧ s < 750 ∨ 750 <= s ∧ s < 1000 ∨ 1000 <= s ∧ s < 1250 ∨ 1250 <= s ∧ s < 1500 ∨ 1500 <= s ∧ s < 1750 ∨ 1750 <= s by omega) with h | h | h | h | h | h | h | h
   · exact key 0 (by decide) (by decide) (by omega) (by omega)
   · exact key 250 (by decide) (by decide) (by omega) (by omega)
   · exact key 500 (by decide) (by decide) (by omega) (by omega)
   · exact key 750 (by decide) (by decide) (by omega) (by omega)
   · exact key 1000 (by decide) (by decide) (by omega) (by omega)
   · exact key 1250 (by decide) (by decide) (by omega) (by omega)
   · exact key 1500 (by decide) (by decide) (by omega) (by omega)
   · exact key 1750 (by decide) (by decide) (by omega) (by omega)
 · rcases (show s < 18446744073709550866 ∨ 18446744073709550866 <= s ∧ s < 18446744073709551116 ∨ 18446744073709551116 <= s ∧ s < 18446744073709551366 ∨ 18446744073709551366 <= s by omega) with h | h | h | h
   · exact key 18446744073709550616 (by decide) (by decide) (by omega) (by omega)
   · exact key 18446744073709550866 (by decide) (by decide) (by omega) (by omega)
   · exact key 18446744073709551116 (by decide) (by decide) (by omega) (by omega)
   · exact key 18446744073709551366 (by decide) (by decide) (by omega) (by omega)
theorem wb_first (s n : Nat) (hn : 4 <= n) (hn2 : n <= 32) : (wbytesL s n).take 4 = putL (aN s) 4 := by
 have h1 : (n + 31) / 32 = 1 := by omega
 unfold wbytesL; rw [h1, List.take_take, Nat.min_eq_left hn]
 show (([] : List UInt8) ++ ctrL s 0).take 4 = _
 rw [List.nil_append]; exact sum_first s
theorem put4_inj (a b : Nat) (ha : a < 4294967296) (hb : b < 4294967296) (h : putL a 4 = putL b 4) : a = b := by
 have e : ∀ v, (UInt8.ofNat v).toNat = v % 256 := fun v => by simp
 simp only [putL, List.cons.injEq] at h; obtain ⟨h0, h1, h2, h3, _⟩ := h; have g0 := congrArg UInt8.toNat h0; have g1 := congrArg UInt8.toNat h1; have g2 := congrArg UInt8.toNat h2; have g3 := congrArg UInt8.toNat h3; rw [e, e] at g0 g1 g2 g3; omega
theorem wb_apart (s t n : Nat) (hn : 4 <= n) (hn2 : n <= 32) (h : aN s ≠ aN t) : wbytesL s n ≠ wbytesL t n := fun e => by
 have := congrArg (List.take 4) e; rw [wb_first s n hn hn2, wb_first t n hn hn2] at this; exact h (put4_inj _ _ (aN_lt s) (aN_lt t) this)
theorem ids_apart (s t : Nat) (hs : s < 2000 ∨ 18446744073709550616 <= s ∧ s < 18446744073709551616) (h1 : 5000 <= t) (h2 : t < 6000) : wbytesL s 32 ≠ wbytesL t 32 := wb_apart s t 32 (by decide) (by decide) (aN_apart s t hs h1 h2)
theorem aN_one (s : Nat) (h : s < 18446744073709551615) : aN s = chunkP s 1 (fun _ x => x) := by
 rw [chunkP_eq s 1 (by omega)]
 show aN s = aN s + 18446744073709551616 * 0
 omega
theorem aN_1000 : aN 1000 = 499079513 := by rw [aN_one _ (by decide)]; kernel_rfl
theorem aN_1001 : aN 1001 = 12588446 := by rw [aN_one _ (by decide)]; kernel_rfl
theorem aN_1002 : aN 1002 = 3901959868 := by rw [aN_one _ (by decide)]; kernel_rfl
theorem aN_1003 : aN 1003 = 1564947080 := by rw [aN_one _ (by decide)]; kernel_rfl
theorem aN_1004 : aN 1004 = 3474846395 := by rw [aN_one _ (by decide)]; kernel_rfl
theorem aN_1005 : aN 1005 = 1494705794 := by rw [aN_one _ (by decide)]; kernel_rfl
theorem aN_1006 : aN 1006 = 852999327 := by rw [aN_one _ (by decide)]; kernel_rfl
theorem aN_1007 : aN 1007 = 2346212949 := by rw [aN_one _ (by decide)]; kernel_rfl
theorem aN_2000001 : aN 2000001 = 2169223055 := by rw [aN_one _ (by decide)]; kernel_rfl
end Go.Proofs.YtiemnacoebkalaaGreat
