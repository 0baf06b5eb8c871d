/- Words in memory: rows of 32-bit numbers; turn and rotate. -/
import Derived.Test.YtahphlcahaheiaaSha
import Derived.Test.YtahphlcahaheiaaApp
import Derived.Test.YtahphlcahaheiaaReg
import Derived.Test.YtahphlcahaheiaaBlk
import Derived.Deep.QuietTactic
import Derived.BigQuiet
namespace Go.Proofs.Ytahphlcahaheiaa
open Go.RowKit

def wV (x : Int) : Value := .int .u32 x
def stL (s : St) : List Int := [s.a, s.b, s.c, s.d, s.e, s.f, s.g, s.h]
/-- '.slice A n c' reads as the words l. -/
def Words (w : World) (A : Option Addr) (n c : Nat) (l : List Int) : Prop := Rd w 1 A n c (l.map wV)
section
variable {w w' : World} {A : Option Addr} {n c : Nat} {l : List Int}
theorem Words.stays (h : Words w A n c l) (hb : Below w.heap.size w w') : Words w' A n c l := Rd.stays h hb
theorem Words.len (h : Words w A n c l) : l.length = n := by have := h.1; simpa using this
theorem Words.le (h : Words w A n c l) : n ≤ c := h.2.1
theorem Words.cap (h : Words w A n c l) : c ≤ 9223372036854775807 := by have := h.2.2.1; unfold maxLen at this; omega
theorem Words.at_ (h : Words w A n c l) {i : Nat} (hi : i < n) : ∃ b off, A = some ⟨b, off, none⟩ ∧ w.cell? ⟨b, off + i, none⟩ = some (.int .u32 (wAt l i)) :=
  h.2.2.2 i _ (by have := h.len; simp [wAt, wV, List.getD, show i < l.length by omega])
end
/-- The first n words of the schedule in a row of 64. -/
def schedArr (b : List UInt8) (n : Nat) : Array Value := ((sched b n).map wV ++ List.replicate (64 - n) (wV 0)).toArray
theorem schedArr_zero (b : List UInt8) : #[Value.int .u32 0, .int .u32 0, .int .u32 0, .int .u32 0, .int .u32 0, .int .u32 0, .int .u32 0, .int .u32 0, .int .u32 0, .int .u32 0, .int .u32 0, .int .u32 0, .int .u32 0, .int .u32 0, .int .u32 0, .int .u32 0, .int .u32 0, .int .u32 0, .int .u32 0, .int .u32 0, .int .u32 0, .int .u32 0, .int .u32 0, .int .u32 0, .int .u32 0, .int .u32 0, .int .u32 0, .int .u32 0, .int .u32 0, .int .u32 0, .int .u32 0, .int .u32 0, .int .u32 0, .int .u32 0, .int .u32 0, .int .u32 0, .int .u32 0, .int .u32 0, .int .u32 0, .int .u32 0, .int .u32 0, .int .u32 0, .int .u32 0, .int .u32 0, .int .u32 0, .int .u32 0, .int .u32 0, .int .u32 0, .int .u32 0, .int .u32 0, .int .u32 0, .int .u32 0, .int .u32 0, .int .u32 0, .int .u32 0, .int .u32 0, .int .u32 0, .int .u32 0, .int .u32 0, .int .u32 0, .int .u32 0, .int .u32 0, .int .u32 0, .int .u32 0] = schedArr b 0 := by simp [schedArr, sched, wV, List.replicate]
theorem schedArr_at (b : List UInt8) (n i : Nat) (h : i < n) : (schedArr b n)[i]? = some (.int .u32 (wAt (sched b n) i)) := by
  have hl := sched_len b n
  simp only [schedArr, List.getElem?_toArray]
  rw [List.getElem?_append_left (by simp; omega)]
  simp [wAt, wV, List.getD, show i < (sched b n).length by omega]
theorem schedArr_open (b : List UInt8) (n : Nat) (h : n < 64) : (schedArr b n)[n]? = some (.int .u32 0) := by
  have hl := sched_len b n
  simp only [schedArr, List.getElem?_toArray]
  rw [List.getElem?_append_right (by simp; omega)]
  simp [List.getElem?_replicate, hl, wV]; omega
theorem schedArr_set (b : List UInt8) (n : Nat) (h : n < 64) : (schedArr b n).setIfInBounds n (.int .u32 (nextW b (sched b n) n)) = schedArr b (n + 1) := by
  have hl := sched_len b n
  simp only [schedArr, List.setIfInBounds_toArray]
  congr 1
  rw [List.set_append_right _ _ (by simp; omega), show 64 - n = (64 - (n + 1)) + 1 by omega, List.replicate_succ]
  simp [hl, sched, wV]
theorem sched_prev (b : List UInt8) (n i : Nat) (h : i < n) (m : Nat) (hm : i < m) : wAt (sched b n) i = wAt (sched b m) i := by
  rw [sched_at b i n h, sched_at b i m hm]

theorem turn_any (x K : Int) (w : World) (h0 : 0 ≤ K) (h1 : K ≤ 32) :
    Calls Try.prog 92 #[.int .u32 x, .int .i64 K] w fun e w' => e = .returned (.int .u32 (rotI x K.toNat)) ∧ w' = w := by
  obtain ⟨k, rfl⟩ := Int.eq_ofNat_of_zero_le h0
  have e : rotI x k = bits BinOp.or IntKind.u32 (x / 2 ^ k) (x * 2 ^ (32 - k) % 4294967296) := by simp [rotI, IntKind.wrap_u32]
  have E := Lib.hid e
  clear e
  go_enter Try.func92, Try.ntmps92
  go_wp2
  go_ret
  exact ⟨by rw [Int.toNat_natCast, E.out]; rfl, rfl⟩
theorem words8 {w : World} {A : Option Addr} {c : Nat} {h : St} (hh : Words w A 8 c (stL h)) : ∃ b off, A = some ⟨b, off, none⟩ ∧ w.cell? ⟨b, off, none⟩ = some (.int .u32 h.a) ∧ w.cell? ⟨b, off + 1, none⟩ = some (.int .u32 h.b) ∧ w.cell? ⟨b, off + 2, none⟩ = some (.int .u32 h.c) ∧
    w.cell? ⟨b, off + 3, none⟩ = some (.int .u32 h.d) ∧ w.cell? ⟨b, off + 4, none⟩ = some (.int .u32 h.e) ∧ w.cell? ⟨b, off + 5, none⟩ = some (.int .u32 h.f) ∧ w.cell? ⟨b, off + 6, none⟩ = some (.int .u32 h.g) ∧ w.cell? ⟨b, off + 7, none⟩ = some (.int .u32 h.h) := by
  obtain ⟨b, off, rfl, a0⟩ := hh.at_ (i := 0) (by omega)
  refine ⟨b, off, rfl, a0, ?_⟩
  have key : ∀ i, i < 8 → w.cell? ⟨b, off + i, none⟩ = some (.int .u32 (wAt (stL h) i)) := by
    intro i hi
    obtain ⟨b', o', e, a⟩ := hh.at_ hi
    simp only [Option.some.injEq, Addr.mk.injEq, and_true] at e
    obtain ⟨rfl, rfl⟩ := e
    exact a
  exact ⟨key 1 (by omega), key 2 (by omega), key 3 (by omega), key 4 (by omega), key 5 (by omega), key 6 (by omega), key 7 (by omega)⟩
theorem words_lit {w : World} {E : TypeId} (s : St) : Words (w.alloc (.cells #[.int .u32 s.a, .int .u32 s.b, .int .u32 s.c, .int .u32 s.d, .int .u32 s.e, .int .u32 s.f, .int .u32 s.g, .int .u32 s.h] E)) (some ⟨w.heap.size, 0, none⟩) 8 8 (stL s) := by
  refine ⟨rfl, Nat.le_refl _, by decide, fun i u hu => ⟨_, _, rfl, ?_⟩⟩
  rw [World.cell?_alloc_at _ _ _ _ rfl, Nat.zero_add]
  rw [← hu]
  match i with
  | 0 | 1 | 2 | 3 | 4 | 5 | 6 | 7 => rfl
  | n + 8 => rfl
theorem round_a (h A C k w B D : Int) : (((((h + A) % 4294967296 + C) % 4294967296 + k) % 4294967296 + w) % 4294967296 + (B + D) % 4294967296) % 4294967296 = w32 (w32 (h + A + C + k + w) + w32 (B + D)) := by unfold w32; omega
theorem round_e (d h A C k w : Int) : (d + ((((h + A) % 4294967296 + C) % 4294967296 + k) % 4294967296 + w) % 4294967296) % 4294967296 = w32 (d + w32 (h + A + C + k + w)) := by unfold w32; omega
theorem round_a2 (h A C k w B D : Int) : (h + A + C + k + w + (B + D)) % 4294967296 = w32 (w32 (h + A + C + k + w) + w32 (B + D)) := by unfold w32; omega
theorem round_e2 (d h A C k w : Int) : (d + (h + A + C + k + w)) % 4294967296 = w32 (d + w32 (h + A + C + k + w)) := by unfold w32; omega
theorem grown_put {w wr : World} {g : Nat} (h : w.grownBy wr (some g)) (k : Nat) (v : Value) : w.grownBy (wr.setCell ⟨g, k, none⟩ v) (some g) :=
  ⟨h.os, h.tape, h.output, by have := h.size; simpa [World.setCell] using this, fun j hj hjb => (Below.heap_setCell _ _ _ _ (fun e => hjb (by rw [e]))).trans (h.block j hj hjb)⟩
theorem grown_drew {w wr : World} {r : Option Nat} (h : w.grownBy wr r) : w.grownBy wr.drew r := ⟨h.os, h.tape, h.output, h.size, h.block⟩
/-- Eight times a count, in 64 bits. -/
def cnt8 (c : Nat) : Nat := c * 8 % 18446744073709551616
theorem cnt_wrap (c : Nat) : IntKind.u64.wrap ((c : Int) * 8) = ((cnt8 c : Nat) : Int) := by
  simp [IntKind.wrap, IntKind.bits, IntKind.signed, cnt8]
theorem padL_cnt (n c : Nat) : padL n c = 128 :: (List.replicate (padN n) 0 ++ putL (cnt8 c) 8) := rfl
theorem or_comm32 (x y : Int) : bits BinOp.or IntKind.u32 x y = bits BinOp.or IntKind.u32 y x := by unfold bits; simp only [BitVec.or_comm]
theorem word_or (b : List UInt8) (t : Nat) : bits .or .u32 (bits .or .u32 (bits .or .u32 ((byteAt b (4 * t) : Int) % 4294967296 * 16777216 % 4294967296) ((byteAt b (4 * t + 1) : Int) % 4294967296 * 65536 % 4294967296)) ((byteAt b (4 * t + 2) : Int) % 4294967296 * 256 % 4294967296)) ((byteAt b (4 * t + 3) : Int) % 4294967296) = wordAt b t := by
  have h0 := byteAt_lt b (4 * t); have h1 := byteAt_lt b (4 * t + 1); have h2 := byteAt_lt b (4 * t + 2); have h3 := byteAt_lt b (4 * t + 3)
  have hw : ∀ n : Int, 0 ≤ n → n < 2 ^ 32 → IntKind.u32.wrap n = n := fun n a b => by rw [IntKind.wrap_u32]; omega
  have m : ∀ x : Nat, x < 256 → (x : Int) % 4294967296 = x := fun x hx => Int.emod_eq_of_lt (by omega) (by omega)
  rw [m _ h0, m _ h1, m _ h2, m _ h3, Int.emod_eq_of_lt (by omega) (by omega), Int.emod_eq_of_lt (by omega) (by omega), Int.emod_eq_of_lt (by omega) (by omega)]
  rw [show bits .or .u32 ((byteAt b (4 * t) : Int) * 16777216) ((byteAt b (4 * t + 1) : Int) * 65536) = _ from bits_join .u32 32 (by decide) hw 24 _ _ (by omega) (by omega) (by omega) (by omega) (by omega) (by omega)]
  rw [show bits .or .u32 ((byteAt b (4 * t) : Int) * 16777216 + (byteAt b (4 * t + 1) : Int) * 65536) ((byteAt b (4 * t + 2) : Int) * 256) = _ from bits_join .u32 32 (by decide) hw 16 _ _ (by omega) (by omega) (by omega) (by omega) (by omega) (by omega)]
  rw [bits_join .u32 32 (by decide) hw 8 _ _ (by omega) (by omega) (by omega) (by omega) (by omega) (by omega)]
  rfl
theorem schedArr_step (l : List UInt8) (j : Nat) (x : Int) (h0 : 16 ≤ j) (h1 : j < 64) (e : x = w32 (sg1 (wAt (sched l j) (j - 2)) + wAt (sched l j) (j - 7) + sg0 (wAt (sched l j) (j - 15)) + wAt (sched l j) (j - 16))) : schedArr l (j + 1) = (schedArr l j).setIfInBounds j (.int .u32 x) := by
  rw [← schedArr_set l j h1, nextW, if_neg (by omega), e]
theorem next_low (b : List UInt8) (n : Nat) (h : n < 16) : nextW b (sched b n) n = wordAt b n := by rw [nextW, if_pos h]

def stA (s : St) : Array Value := #[.int .u32 s.a, .int .u32 s.b, .int .u32 s.c, .int .u32 s.d, .int .u32 s.e, .int .u32 s.f, .int .u32 s.g, .int .u32 s.h]
theorem blk_step {w : World} {g t : Nat} {s : St} {K W E A : Int} (H : Blk w g t (stA ⟨s.a, s.a, s.b, s.c, s.d, s.e, s.f, s.g⟩)) (hE : E = w32 (s.d + t1I s K W)) (hA : A = w32 (t1I s K W + t2I s)) :
    Blk ((w.setCell ⟨g, 4, none⟩ (.int .u32 E)).setCell ⟨g, 0, none⟩ (.int .u32 A)) g t (stA (step s K W)) := by
  subst hE hA
  exact (H.put 4 _).put 0 _
theorem blk8 {w : World} {g t : Nat} {h : St} (hh : Blk w g t (stA h)) : w.cell? ⟨g, 0, none⟩ = some (.int .u32 h.a) ∧ w.cell? ⟨g, 1, none⟩ = some (.int .u32 h.b) ∧ w.cell? ⟨g, 2, none⟩ = some (.int .u32 h.c) ∧ w.cell? ⟨g, 3, none⟩ = some (.int .u32 h.d) ∧
    w.cell? ⟨g, 4, none⟩ = some (.int .u32 h.e) ∧ w.cell? ⟨g, 5, none⟩ = some (.int .u32 h.f) ∧ w.cell? ⟨g, 6, none⟩ = some (.int .u32 h.g) ∧ w.cell? ⟨g, 7, none⟩ = some (.int .u32 h.h) :=
  ⟨hh.cell 0, hh.cell 1, hh.cell 2, hh.cell 3, hh.cell 4, hh.cell 5, hh.cell 6, hh.cell 7⟩
/-- The first k words are sums, the others as they were. -/
def mixA (s t : St) (k : Nat) : Array Value := (((stL (addS s t)).take k ++ (stL s).drop k).map wV).toArray
theorem mixA_at (s t : St) (k : Nat) (h : k < 8) : (mixA s t k)[k]? = some (.int .u32 (wAt (stL s) k)) := by
  match k, h with
  | 0, _ | 1, _ | 2, _ | 3, _ | 4, _ | 5, _ | 6, _ | 7, _ => rfl
theorem mixA_set (s t : St) (k : Nat) (h : k < 8) : (mixA s t k).setIfInBounds k (.int .u32 ((wAt (stL s) k + wAt (stL t) k) % 4294967296)) = mixA s t (k + 1) := by
  match k, h with
  | 0, _ | 1, _ | 2, _ | 3, _ | 4, _ | 5, _ | 6, _ | 7, _ => rfl
theorem stA_at (s : St) (k : Nat) (h : k < 8) : (stA s)[k]? = some (.int .u32 (wAt (stL s) k)) := by
  match k, h with
  | 0, _ | 1, _ | 2, _ | 3, _ | 4, _ | 5, _ | 6, _ | 7, _ => rfl
theorem kTab_at (k : Nat) (h : k < 64) : ((kTab.map wV).toArray)[k]? = some (.int .u32 (wAt kTab k)) := by
  have hl : k < kTab.length := h
  simp [wAt, wV, List.getD, hl]
end Go.Proofs.Ytahphlcahaheiaa
