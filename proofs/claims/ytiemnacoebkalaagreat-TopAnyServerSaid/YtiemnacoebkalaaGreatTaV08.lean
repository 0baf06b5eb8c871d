import Derived.Deep.QuietTactic
import Derived.BigQuiet
import Derived.Outline
import Derived.Test.YtiemnacoebkalaaGreatTaV01
import Derived.Test.YtiemnacoebkalaaGreatTaV02
set_option linter.all false
set_option maxRecDepth 100000
set_option maxHeartbeats 4000000
namespace Go.Proofs.YtiemnacoebkalaaGreat
open Go.RowKit
def wV (x : Int) : Value := .int .u32 x
def stL (s : St) : List Int := [s.a, s.b, s.c, s.d, s.e, s.f, s.g, s.h]
def Words (w : World) (A : Option Addr) (n c : Nat) (l : List Int) : Prop := Rd w 1 A n c (l.map wV)
section
variable {w w' : World} {A : Option Addr} {n c : Nat} {l : List Int}
theorem Words.stays (h : Words w A n c l) (hb : Below w.heap.size w w') : Words w' A n c l := Rd.stays h hb
instance : QStay (Words w A n c l) w w' (Words w' A n c l) := ⟨fun h hb => Words.stays h hb⟩
theorem Words.len (h : Words w A n c l) : l.length = n := by have := h.1; simpa using this
theorem Words.le (h : Words w A n c l) : n <= c := h.2.1
theorem Words.cap (h : Words w A n c l) : c <= 9223372036854775807 := by have := h.2.2.1; unfold maxLen at this; omega
theorem Words.at_ (h : Words w A n c l) {i : Nat} (hi : i < n) : ∃ b off, A = some ⟨b, off, none⟩ ∧ w.cell? ⟨b, off + i, none⟩ = some (.int .u32 (wAt l i)) :=
 h.2.2.2 i _ (by have := h.len; simp [wAt, wV, List.getD, show i < l.length by omega])
end
def schedArr (b : List UInt8) (n : Nat) : Array Value := ((sched b n).map wV ++ List.replicate (64 - n) (wV 0)).toArray
theorem schedArr_zero (b : List UInt8) : #[Value.int .u32 0, .int .u32 0, .int .u32 0, .int .u32 0, .int .u32 0, .int .u32 0, .int .u32 0, .int .u32 0, .int .u32 0, .int .u32 0, .int .u32 0, .int .u32 0, .int .u32 0, .int .u32 0, .int .u32 0, .int .u32 0, .int .u32 0, .int .u32 0, .int .u32 0, .int .u32 0, .int .u32 0, .int .u32 0, .int .u32 0, .int .u32 0, .int .u32 0, .int .u32 0, .int .u32 0, .int .u32 0, .int .u32 0, .int .u32 0, .int .u32 0, .int .u32 0, .int .u32 0, .int .u32 0, .int .u32 0, .int .u32 0, .int .u32 0, .int .u32 0, .int .u32 0, .int .u32 0, .int .u32 0, .int .u32 0, .int .u32 0, .int .u32 0, .int .u32 0, .int .u32 0, .int .u32 0, .int .u32 0, .int .u32 0, .int .u32 0, .int .u32 0, .int .u32 0, .int .u32 0, .int .u32 0, .int .u32 0, .int .u32 0, .int .u32 0, .int .u32 0, .int .u32 0, .int .u32 0, .int .u32 0, .int .u32 0, .int .u32 0, .int .u32 0] = schedArr b 0 := by simp [schedArr, sched, wV, List.replicate]
theorem schedArr_at (b : List UInt8) (n i : Nat) (h : i < n) : (schedArr b n)[i]? = some (.int .u32 (wAt (sched b n) i)) := by
 have hl := sched_len b n; simp only [schedArr, List.getElem?_toArray]; rw [List.getElem?_append_left (by simp; omega)]; simp [wAt, wV, List.getD, show i < (sched b n).length by omega]
theorem schedArr_open (b : List UInt8) (n : Nat) (h : n < 64) : (schedArr b n)[n]? = some (.int .u32 0) := by
 have hl := sched_len b n; simp only [schedArr, List.getElem?_toArray]; rw [List.getElem?_append_right (by simp; omega)]; simp [List.getElem?_replicate, hl, wV]; omega
theorem schedArr_set (b : List UInt8) (n : Nat) (h : n < 64) : (schedArr b n).setIfInBounds n (.int .u32 (nextW b (sched b n) n)) = schedArr b (n + 1) := by
 have hl := sched_len b n; simp only [schedArr, List.setIfInBounds_toArray]
 congr 1
 rw [List.set_append_right _ _ (by simp; omega), show 64 - n = (64 - (n + 1)) + 1 by omega, List.replicate_succ]; simp [hl, sched, wV]
theorem turn_any (x K : Int) (w : World) (h0 : 0 <= K) (h1 : K <= 32) :
    Calls Tryz.prog 128 #[.int .u32 x, .int .i64 K] w fun e w' => e = .returned (.int .u32 (rotI x K.toNat)) ∧ w' = w := by
 obtain ⟨k, rfl⟩ := Int.eq_ofNat_of_zero_le h0; have e : rotI x k = bits BinOp.or IntKind.u32 (x / 2 ^ k) (x * 2 ^ (32 - k) % 4294967296) := by simp [rotI, IntKind.wrap_u32]
 have E := qq e; clear e
 go_enter Tryz.func128, Tryz.ntmps128
 go_wp2; go_ret; exact ⟨by rw [Int.toNat_natCast, E.out]; rfl, rfl⟩
theorem words8 {w : World} {A : Option Addr} {c : Nat} {h : St} (hh : Words w A 8 c (stL h)) : ∃ b off, A = some ⟨b, off, none⟩ ∧ w.cell? ⟨b, off, none⟩ = some (.int .u32 h.a) ∧ w.cell? ⟨b, off + 1, none⟩ = some (.int .u32 h.b) ∧ w.cell? ⟨b, off + 2, none⟩ = some (.int .u32 h.c) ∧
    w.cell? ⟨b, off + 3, none⟩ = some (.int .u32 h.d) ∧ w.cell? ⟨b, off + 4, none⟩ = some (.int .u32 h.e) ∧ w.cell? ⟨b, off + 5, none⟩ = some (.int .u32 h.f) ∧ w.cell? ⟨b, off + 6, none⟩ = some (.int .u32 h.g) ∧ w.cell? ⟨b, off + 7, none⟩ = some (.int .u32 h.h) := by
 obtain ⟨b, off, rfl, a0⟩ := hh.at_ (i := 0) (by omega); refine ⟨b, off, rfl, a0, ?_⟩; have key : ∀ i, i < 8 -> w.cell? ⟨b, off + i, none⟩ = some (.int .u32 (wAt (stL h) i)) := by
  intro i hi; obtain ⟨b', o', e, a⟩ := hh.at_ hi; simp only [Option.some.injEq, Addr.mk.injEq, and_true] at e; obtain ⟨rfl, rfl⟩ := e; exact a
 exact ⟨key 1 (by omega), key 2 (by omega), key 3 (by omega), key 4 (by omega), key 5 (by omega), key 6 (by omega), key 7 (by omega)⟩
theorem words_lit {w : World} {E : TypeId} (s : St) : Words (w.alloc (.cells #[.int .u32 s.a, .int .u32 s.b, .int .u32 s.c, .int .u32 s.d, .int .u32 s.e, .int .u32 s.f, .int .u32 s.g, .int .u32 s.h] E)) (some ⟨w.heap.size, 0, none⟩) 8 8 (stL s) := by
 refine ⟨rfl, Nat.le_refl _, by decide, fun i u hu => ⟨_, _, rfl, ?_⟩⟩; rw [World.cell?_alloc_at _ _ _ _ rfl, Nat.zero_add]; rw [<- hu]
 match i with
 | 0 | 1 | 2 | 3 | 4 | 5 | 6 | 7 => rfl
 | n + 8 => rfl
theorem round_a (h A C k w B D : Int) : (((((h + A) % 4294967296 + C) % 4294967296 + k) % 4294967296 + w) % 4294967296 + (B + D) % 4294967296) % 4294967296 = w32 (w32 (h + A + C + k + w) + w32 (B + D)) := by unfold w32; omega
theorem round_e (d h A C k w : Int) : (d + ((((h + A) % 4294967296 + C) % 4294967296 + k) % 4294967296 + w) % 4294967296) % 4294967296 = w32 (d + w32 (h + A + C + k + w)) := by unfold w32; omega
theorem round_a2 (h A C k w B D : Int) : (h + A + C + k + w + (B + D)) % 4294967296 = w32 (w32 (h + A + C + k + w) + w32 (B + D)) := by unfold w32; omega
theorem round_e2 (d h A C k w : Int) : (d + (h + A + C + k + w)) % 4294967296 = w32 (d + w32 (h + A + C + k + w)) := by unfold w32; omega
theorem grown_put {w wr : World} {g : Nat} (h : w.grownBy wr (some g)) (k : Nat) (v : Value) : w.grownBy (wr.setCell ⟨g, k, none⟩ v) (some g) :=
 ⟨h.os, h.tape, h.output, by have := h.size; simpa [World.setCell] using this, fun j hj hjb => (Below.heap_setCell _ _ _ _ (fun e => hjb (by rw [e]))).trans (h.block j hj hjb)⟩
theorem grown_drew {w wr : World} {r : Option Nat} (h : w.grownBy wr r) : w.grownBy wr.drew r := ⟨h.os, h.tape, h.output, h.size, h.block⟩
def cnt8 (c : Nat) : Nat := c * 8 % 18446744073709551616
theorem cnt_wrap (c : Nat) : IntKind.u64.wrap ((c : Int) * 8) = ((cnt8 c : Nat) : Int) := by
 simp [IntKind.wrap, IntKind.bits, IntKind.signed, cnt8]
theorem padL_cnt (n c : Nat) : padL n c = 128 :: (List.replicate (padN n) 0 ++ putL (cnt8 c) 8) := rfl
theorem or_comm32 (x y : Int) : bits BinOp.or IntKind.u32 x y = bits BinOp.or IntKind.u32 y x := by unfold bits; simp only [BitVec.or_comm]
theorem word_or (b : List UInt8) (t : Nat) : bits .or .u32 (bits .or .u32 (bits .or .u32 ((byteAt b (4 * t) : Int) % 4294967296 * 16777216 % 4294967296) ((byteAt b (4 * t + 1) : Int) % 4294967296 * 65536 % 4294967296)) ((byteAt b (4 * t + 2) : Int) % 4294967296 * 256 % 4294967296)) ((byteAt b (4 * t + 3) : Int) % 4294967296) = wordAt b t := by
 have h0 := byteAt_lt b (4 * t); have h1 := byteAt_lt b (4 * t + 1); have h2 := byteAt_lt b (4 * t + 2); have h3 := byteAt_lt b (4 * t + 3); have hw : ∀ n : Int, 0 <= n -> n < 2 ^ 32 -> IntKind.u32.wrap n = n := fun n a b => by rw [IntKind.wrap_u32]; omega
 have m : ∀ x : Nat, x < 256 -> (x : Int) % 4294967296 = x := fun x hx => Int.emod_eq_of_lt (by omega) (by omega)
 rw [m _ h0, m _ h1, m _ h2, m _ h3, Int.emod_eq_of_lt (by omega) (by omega), Int.emod_eq_of_lt (by omega) (by omega), Int.emod_eq_of_lt (by omega) (by omega)]; rw [show bits .or .u32 ((byteAt b (4 * t) : Int) * 16777216) ((byteAt b (4 * t + 1) : Int) * 65536) = _ from bits_join .u32 32 (by decide) hw 24 _ _ (by omega) (by omega) (by omega) (by omega) (by omega) (by omega)]; rw [show bits .or .u32 ((byteAt b (4 * t) : Int) * 16777216 + (byteAt b (4 * t + 1) : Int) * 65536) ((byteAt b (4 * t + 2) : Int) * 256) = _ from bits_join .u32 32 (by decide) hw 16 _ _ (by omega) (by omega) (by omega) (by omega) (by omega) (by omega)]; rw [bits_join .u32 32 (by decide) hw 8 _ _ (by omega) (by omega) (by omega) (by omega) (by omega) (by omega)]
 rfl
theorem schedArr_step (l : List UInt8) (j : Nat) (x : Int) (h0 : 16 <= j) (h1 : j < 64) (e : x = w32 (sg1 (wAt (sched l j) (j - 2)) + wAt (sched l j) (j - 7) + sg0 (wAt (sched l j) (j - 15)) + wAt (sched l j) (j - 16))) : schedArr l (j + 1) = (schedArr l j).setIfInBounds j (.int .u32 x) := by
 rw [<- schedArr_set l j h1, nextW, if_neg (by omega), e]
theorem next_low (b : List UInt8) (n : Nat) (h : n < 16) : nextW b (sched b n) n = wordAt b n := by rw [nextW, if_pos h]

def stA (s : St) : Array Value := #[.int .u32 s.a, .int .u32 s.b, .int .u32 s.c, .int .u32 s.d, .int .u32 s.e, .int .u32 s.f, .int .u32 s.g, .int .u32 s.h]
theorem blk_step {w : World} {g t : Nat} {s : St} {K W E A : Int} (H : Blk w g t (stA ⟨s.a, s.a, s.b, s.c, s.d, s.e, s.f, s.g⟩)) (hE : E = w32 (s.d + t1I s K W)) (hA : A = w32 (t1I s K W + t2I s)) :
    Blk ((w.setCell ⟨g, 4, none⟩ (.int .u32 E)).setCell ⟨g, 0, none⟩ (.int .u32 A)) g t (stA (step s K W)) := by
 subst hE hA; exact (H.put 4 _).put 0 _
theorem blk8 {w : World} {g t : Nat} {h : St} (hh : Blk w g t (stA h)) : w.cell? ⟨g, 0, none⟩ = some (.int .u32 h.a) ∧ w.cell? ⟨g, 1, none⟩ = some (.int .u32 h.b) ∧ w.cell? ⟨g, 2, none⟩ = some (.int .u32 h.c) ∧ w.cell? ⟨g, 3, none⟩ = some (.int .u32 h.d) ∧
    w.cell? ⟨g, 4, none⟩ = some (.int .u32 h.e) ∧ w.cell? ⟨g, 5, none⟩ = some (.int .u32 h.f) ∧ w.cell? ⟨g, 6, none⟩ = some (.int .u32 h.g) ∧ w.cell? ⟨g, 7, none⟩ = some (.int .u32 h.h) :=
 ⟨hh.cell 0, hh.cell 1, hh.cell 2, hh.cell 3, hh.cell 4, hh.cell 5, hh.cell 6, hh.cell 7⟩
def mixA (s t : St) (k : Nat) : Array Value := (((stL (addS s t)).take k ++ (stL s).drop k).map wV).toArray
theorem mixA_at (s t : St) (k : Nat) (h : k < 8) : (mixA s t k)[k]? = some (.int .u32 (wAt (stL s) k)) := by
 match k, h with
 | 0, _ | 1, _ | 2, _ | 3, _ | 4, _ | 5, _ | 6, _ | 7, _ => rfl
theorem mixA_set (s t : St) (k : Nat) (h : k < 8) : (mixA s t k).setIfInBounds k (.int .u32 ((wAt (stL s) k + wAt (stL t) k) % 4294967296)) = mixA s t (k + 1) := by
 match k, h with
 | 0, _ | 1, _ | 2, _ | 3, _ | 4, _ | 5, _ | 6, _ | 7, _ => rfl
theorem stA_at (s : St) (k : Nat) (h : k < 8) : (stA s)[k]? = some (.int .u32 (wAt (stL s) k)) := by
 match k, h with
 | 0, _ | 1, _ | 2, _ | 3, _ | 4, _ | 5, _ | 6, _ | 7, _ => rfl
theorem kTab_at (k : Nat) (h : k < 64) : ((kTab.map wV).toArray)[k]? = some (.int .u32 (wAt kTab k)) := by
 have hl : k < kTab.length := h; simp [wAt, wV, List.getD, hl]
theorem refBlock_any (h : St) (l : List UInt8) (Ah Ak Ab : Option Addr) (ch ck cb : Nat) (w : World) (hh : Words w Ah 8 ch (stL h)) (hk : Words w Ak 64 ck kTab) (hb : Bytes w Ab 64 cb l) :
    Calls Tryz.prog 89 #[.slice Ah 8 ch, .slice Ak 64 ck, .slice Ab 64 cb] w fun e w' => ∃ A', e = .returned (.slice A' 8 8) ∧ Words w' A' 8 8 (stL (blk h l)) ∧ Below w.heap.size w w' := by
 have ch1 := hh.le; have ch2 := hh.cap; have ck1 := hk.le; have ck2 := hk.cap; have cb1 := hb.le; have cb2 := hb.cap; have HH := qq hh; have HK := qq hk; have HB := qq hb; clear hh hk hb
 go_enter Tryz.func89, Tryz.ntmps89
 go_wp2; rw [schedArr_zero l]
 go_loopw [8] (fun i wr => ∃ j : Nat, j <= 16 ∧ i = .int .i64 j ∧ Hid (Blk wr w.heap.size 195 (schedArr l j)) ∧ Below w.heap.size w wr) (fun i _ => 16 - (intOf i).toNat)
 case atStart => exact ⟨0, Nat.zero_le _, rfl, Blk.new _ _ _, by go_grown⟩
 case round =>
  obtain ⟨j, hj, rfl, hB, hbr⟩ := hrel
  by_cases hjk : j < 16
  · have HB2 := qs HB hbr; obtain ⟨b, off, rfl, c0⟩ := HB2.out.at_ (i := 4 * j) (by omega); obtain ⟨b', off', e1, c1⟩ := HB2.out.at_ (i := 4 * j + 1) (by omega); obtain ⟨b2, off2, e2, c2⟩ := HB2.out.at_ (i := 4 * j + 2) (by omega); obtain ⟨b3, off3, e3, c3⟩ := HB2.out.at_ (i := 4 * j + 3) (by omega); simp only [Option.some.injEq, Addr.mk.injEq, and_true] at e1 e2 e3; obtain ⟨rfl, rfl⟩ := e1; obtain ⟨rfl, rfl⟩ := e2; obtain ⟨rfl, rfl⟩ := e3; have hs0 := hB.out.cell j; rw [schedArr_open l j (by omega)] at hs0; have hs1 := hB.out.frozen j; have p0 : (0 : Int) <= 4 * (j : Int) := by omega
    have p1 : 4 * (j : Int) < 64 := by omega
    have p2 : (0 : Int) <= 4 * (j : Int) + 1 := by omega
    have p3 : 4 * (j : Int) + 1 < 64 := by omega
    have p4 : (0 : Int) <= 4 * (j : Int) + 2 := by omega
    have p5 : 4 * (j : Int) + 2 < 64 := by omega
    have p6 : (0 : Int) <= 4 * (j : Int) + 3 := by omega
    have p7 : 4 * (j : Int) + 3 < 64 := by omega
    have p8 : (j : Int) < 64 := by omega
    have g0 : IntKind.i64.wrap (4 * (j : Int)) = 4 * (j : Int) := IntWalk.i64_in _ (by omega); have g1 : IntKind.i64.wrap (4 * (j : Int) + 1) = 4 * (j : Int) + 1 := IntWalk.i64_in _ (by omega); have g2 : IntKind.i64.wrap (4 * (j : Int) + 2) = 4 * (j : Int) + 2 := IntWalk.i64_in _ (by omega); have g3 : IntKind.i64.wrap (4 * (j : Int) + 3) = 4 * (j : Int) + 3 := IntWalk.i64_in _ (by omega); have t0 : (4 * (j : Int)).toNat = 4 * j := by omega
    have t1 : (4 * (j : Int) + 1).toNat = 4 * j + 1 := by omega
    have t2 : (4 * (j : Int) + 2).toNat = 4 * j + 2 := by omega
    have t3 : (4 * (j : Int) + 3).toNat = 4 * j + 3 := by omega
    go_wp2; refine region_tail 35 (by kernel_rfl) (by kernel_rfl) ?_; simp only [List.take_succ_cons, List.take_zero, List.drop_succ_cons, List.drop_zero]
    repeat still_step
    refine wpStill_nil ?_; go_wp2
    go_roundw
    case rel =>
     refine ⟨j + 1, by omega, by go_num, ?_, ?_⟩
     · rw [word_or, <- next_low l j hjk]; have := hB.out.put j (.int .u32 (nextW l (sched l j) j)); rw [schedArr_set l j (by omega)] at this; exact this
     · go_grown
    case measure => simp [intOf]; omega
  · obtain rfl : j = 16 := by omega
    go_wp2; rw [show ((16 : Nat) : Int) = 16 from rfl]
    go_loopw [9] (fun i wr => ∃ j : Nat, 16 <= j ∧ j <= 64 ∧ i = .int .i64 j ∧ Hid (Blk wr w.heap.size 195 (schedArr l j)) ∧ Below w.heap.size w wr) (fun i _ => 64 - (intOf i).toNat)
    case atStart => exact ⟨16, by omega, by omega, rfl, hB, hbr⟩
    case round =>
     rename_i wr _; obtain ⟨j, hj0, hj, rfl, hB, hbr⟩ := hrel
     by_cases hjk : j < 64
     · have c15 := hB.out.cell (j - 15); rw [schedArr_at l j _ (by omega)] at c15; have c2 := hB.out.cell (j - 2); rw [schedArr_at l j _ (by omega)] at c2; have c7 := hB.out.cell (j - 7); rw [schedArr_at l j _ (by omega)] at c7; have c16 := hB.out.cell (j - 16); rw [schedArr_at l j _ (by omega)] at c16; have hs0 := hB.out.cell j; rw [schedArr_open l j (by omega)] at hs0; have hs1 := hB.out.frozen j; have p8 : (j : Int) < 64 := by omega
       have q15 : (15 : Int) <= (j : Int) := by omega
       have q2 : (2 : Int) <= (j : Int) := by omega
       have q7 : (7 : Int) <= (j : Int) := by omega
       have q16 : (16 : Int) <= (j : Int) := by omega
       have r15 : (j : Int) - 15 < 64 := by omega
       have r2 : (j : Int) - 2 < 64 := by omega
       have r7 : (j : Int) - 7 < 64 := by omega
       have r16 : (j : Int) - 16 < 64 := by omega
       have n15 : (0 : Int) <= (j : Int) - 15 := by omega
       have n2 : (0 : Int) <= (j : Int) - 2 := by omega
       have n7 : (0 : Int) <= (j : Int) - 7 := by omega
       have n16 : (0 : Int) <= (j : Int) - 16 := by omega
       have g15 : IntKind.i64.wrap ((j : Int) - 15) = (j : Int) - 15 := IntWalk.i64_in _ (by omega); have g2 : IntKind.i64.wrap ((j : Int) - 2) = (j : Int) - 2 := IntWalk.i64_in _ (by omega); have g7 : IntKind.i64.wrap ((j : Int) - 7) = (j : Int) - 7 := IntWalk.i64_in _ (by omega); have g16 : IntKind.i64.wrap ((j : Int) - 16) = (j : Int) - 16 := IntWalk.i64_in _ (by omega); have t15 : ((j : Int) - 15).toNat = j - 15 := by omega
       have t2 : ((j : Int) - 2).toNat = j - 2 := by omega
       have t7 : ((j : Int) - 7).toNat = j - 7 := by omega
       have t16 : ((j : Int) - 16).toNat = j - 16 := by omega
       go_wp2; refine region_still (by kernel_rfl) (by kernel_rfl) ?_
       repeat still_step
       refine wpStill_nil ?_; go_wp2; refine region_tail 29 (by kernel_rfl) (by kernel_rfl) ?_; simp only [List.take_succ_cons, List.take_zero, List.drop_succ_cons, List.drop_zero]
       repeat (first | still_step | still_call (turn_any _ _ _ (by decide) (by decide)))
       refine wpStill_nil ?_; go_wp2
       go_roundw
       case rel =>
        refine ⟨j + 1, by omega, by omega, by go_num, ?_, ?_⟩
        · rw [schedArr_step l j _ hj0 hjk rfl]; exact hB.out.put j _
        · go_grown
       case measure => simp [intOf]; omega
     · obtain rfl : j = 64 := by omega
       obtain ⟨bh, oh, rfl, a0, a1, a2, a3, a4, a5, a6, a7⟩ := words8 (HH.out.stays hbr); go_wp2; refine region_still (by kernel_rfl) (by kernel_rfl) ?_
       repeat still_step
       refine wpStill_nil ?_; go_wp2
       go_loopw [12, 13, 14, 15, 16, 17, 18, 19, 20] (fun a b c d e f g hh i wz => ∃ (k : Nat) (s : St), k <= 64 ∧ i = .int .i64 k ∧ Hid (s = rounds h (sched l 64) k) ∧ a = .int .u32 s.a ∧ b = .int .u32 s.b ∧ c = .int .u32 s.c ∧ d = .int .u32 s.d ∧ e = .int .u32 s.e ∧ f = .int .u32 s.f ∧ g = .int .u32 s.g ∧ hh = .int .u32 s.h ∧ Below wr.heap.size wr wz) (fun _ _ _ _ _ _ _ _ i _ => 64 - (intOf i).toNat)
       case atStart => exact ⟨0, h, by omega, rfl, rfl, rfl, rfl, rfl, rfl, rfl, rfl, rfl, rfl, by go_grown⟩
       case round =>
        rename_i wz _; obtain ⟨k, s, hk, rfl, hs, rfl, rfl, rfl, rfl, rfl, rfl, rfl, rfl, hbz⟩ := hrel; have hwz := hbr.trans (hbz.mono hbr.size)
        by_cases hk64 : k < 64
        · obtain ⟨bk, ok, rfl, ck0⟩ := (HK.out.stays hwz).at_ hk64; have cw := (hB.out.stays hbz).cell k; rw [schedArr_at l 64 _ (by omega)] at cw; have pk : (k : Int) < 64 := by omega
          go_wp2; refine region_still (by kernel_rfl) (by kernel_rfl) ?_
          repeat (first | still_step | still_call (turn_any _ _ _ (by decide) (by decide)))
          refine wpStill_nil ?_
          go_wp2_with (go_at_call 128; refine (turn_any _ _ _ (by decide) (by decide)).mono ?_; rintro e w1 ⟨rfl, rfl⟩)
          go_roundw
          case rel =>
           exact ⟨k + 1, step s (wAt kTab k) (wAt (sched l 64) k), by omega, by go_num, by unfold Hid; rw [hs.out]; rfl, congrArg (Value.int .u32) (round_a _ _ _ _ _ _ _), rfl, rfl, rfl, congrArg (Value.int .u32) (round_e _ _ _ _ _ _), rfl, rfl, rfl, by go_grown⟩
          case measure => simp [intOf]; omega
        · obtain rfl : k = 64 := by omega
          obtain rfl : s = rounds h (sched l 64) 64 := hs.out; clear a0 a1 a2 a3 a4 a5 a6 a7; obtain ⟨b', off', e0, a0, a1, a2, a3, a4, a5, a6, a7⟩ := words8 (HH.out.stays hwz); simp only [Option.some.injEq, Addr.mk.injEq, and_true] at e0; obtain ⟨rfl, rfl⟩ := e0
          generalize hR : rounds h (sched l 64) 64 = R
          have HR := qq hR; clear hR hs; go_wp2; refine region_tail 40 (by kernel_rfl) (by kernel_rfl) ?_; simp only [List.take_succ_cons, List.take_zero, List.drop_succ_cons, List.drop_zero]
          repeat still_step
          refine wpStill_nil ?_; go_wp2; go_ret; refine ⟨_, rfl, ?_, by have hz := hwz.size; go_grown⟩; rw [blk, HR.out]; exact words_lit (addS h R)
theorem refFirst_any (w : World) : Calls Tryz.prog 87 #[] w fun e w' => ∃ A', e = .returned (.slice A' 8 8) ∧ Words w' A' 8 8 (stL firstS) ∧ Below w.heap.size w w' := by
 go_enter Tryz.func87, Tryz.ntmps87
 go_wp2; go_ret; exact ⟨_, rfl, words_lit firstS, by go_grown⟩
theorem refConst_any (w : World) : Calls Tryz.prog 88 #[] w fun e w' => ∃ A', e = .returned (.slice A' 64 64) ∧ Words w' A' 64 64 kTab ∧ Below w.heap.size w w' := by
 go_enter Tryz.func88, Tryz.ntmps88
 go_wp2; go_ret; refine ⟨_, rfl, ⟨rfl, Nat.le_refl _, by decide, fun i u hu => ⟨_, _, rfl, ?_⟩⟩, by go_grown⟩; rw [World.cell?_alloc_at _ _ _ _ rfl, Nat.zero_add, <- hu]; simp [kTab, wV]

def outTo (s : St) (k : Nat) : List UInt8 := ((stL s).take k).flatMap fun x => putL x.toNat 4
theorem outTo_step (s : St) (k : Nat) (h : k < 8) : outTo s (k + 1) = outTo s k ++ putL (wAt (stL s) k).toNat 4 := by
 match k, h with
 | 0, _ | 1, _ | 2, _ | 3, _ | 4, _ | 5, _ | 6, _ | 7, _ => simp [outTo, stL, wAt]
theorem outTo_end (s : St) : outTo s 8 = outL s := by simp [outTo, stL, outL]
theorem wAt_stL {s : St} (h : InS s) (k : Nat) : InW (wAt (stL s) k) := by
 refine wAt_in (fun x hx => ?_) k; obtain ⟨h0, h1, h2, h3, h4, h5, h6, h7⟩ := h; simp only [stL, List.mem_cons, List.not_mem_nil, or_false] at hx; rcases hx with rfl | rfl | rfl | rfl | rfl | rfl | rfl | rfl <;> assumption
theorem pad_mod (n z : Nat) (hn : n < 64) (hz : z <= padN n) : ((n + 1 + z) % 64 = 56) ↔ z = padN n := by
 unfold padN at *
 split at hz <;> rename_i h
 · rw [if_pos h]; omega
 · rw [if_neg h]; omega
theorem padN_le (n : Nat) : padN n <= 119 := by unfold padN; split <;> omega
theorem pad_len (n : Nat) (h : n < 64) : n + 1 + padN n + 8 = 64 * (if n + 9 <= 64 then 1 else 2) := by unfold padN; split <;> omega

theorem refFinish_any (s : St) (hs : InS s) (l : List UInt8) (Ah Ab : Option Addr) (ch n cb count : Nat) (w : World) (hh : Words w Ah 8 ch (stL s)) (hb : Bytes w Ab n cb l) (hn : n < 64) (hc : count <= 9223372036854775807) :
    Calls Tryz.prog 90 #[.slice Ah 8 ch, .slice Ab n cb, .int .i64 count] w fun e w' => ∃ A' c', e = .returned (.slice A' 32 c') ∧ w'.ownsRow w.heap.size 5 1 (.slice A' 32 c') 32 ((finL s l count).map byteV) ∧ Below w.heap.size w w' := by
 obtain ⟨i0, hi, hz0, hz1, hz2⟩ := info_parts infoByteA; have ch1 := hh.le; have ch2 := hh.cap; have cb1 := hb.le; have cb2 := hb.cap; have HL := qq hb.len; have HH := qq hh; have HB := qq hb; clear hh hb
 go_enter Tryz.func90, Tryz.ntmps90
 go_wp2_with fail
 refine (refConst_any _).mono ?_; rintro e w1 ⟨Ak, rfl, hk, hb1⟩; have HK := qq hk; have HH := qs HH hb1; have HB := qs HB hb1; have hB1 := hb1.size; have R1 := qq hb1; clear hk hb1
 go_wp2_with fail
 refine (refJoin_any _ _ _ [l] _ (lists_made1 HB.out) n (by simp [HL.out]) (by omega)).mono ?_; rintro e w2 ⟨Aj, cj, rfl, hj, hb2⟩; have hB2 : Below w1.heap.size w1 w2 := below_via (by go_grown) hb2 (by simp); have hs2 := hB2.size; have hw2 := hb2.size; simp at hw2; have HO := qq (own_alloc (own_more (B' := w1.heap.size) hj (by simp)) (.cells #[.int .u8 128] 5)); clear hj hb2
 go_wp2_with (at_builtin; refine wpList_append_rd rfl _ _ 27 rfl i0 (.int .u8 0) 1 Tryz.underlying27 hi hz0 hz1 hz2 rfl (by decide) rfl HO.out rfl (rd_one _ _ _) (oneCell_bytes [128]) ?c1 ?c2 ?c3 ?_)
 case c1 => unfold maxLen; omega
 case c2 => omega
 case c3 => simp; omega
 intro A3 c3 w3 hown3 hg3 hb3; have hB3 : Below w1.heap.size w1 w3 := (hB2.alloc hs2 _).trans hb3; have H3 := qq hown3; clear hown3 hg3 hb3 HO hB2; have hp := padN_le n; go_wp2
 go_loopw [8] (fun b wr => ∃ (z cc : Nat) (AA : Option Addr), z <= padN n ∧ b = .slice AA (n + 1 + z) cc ∧ Hid (wr.ownsRow w1.heap.size 5 1 (.slice AA (n + 1 + z) cc) (n + 1 + z) ((l ++ 128 :: List.replicate z 0).map byteV)) ∧ Below w1.heap.size w1 wr) (fun b _ => match b with | .slice _ m _ => n + 1 + padN n - m | _ => 0)
 case atStart => exact ⟨0, c3, A3, Nat.zero_le _, rfl, by simpa [Hid, byteV] using H3.out, hB3⟩
 case round =>
  clear H3 hB3; obtain ⟨z, cc, AA, hz, rfl, HO, hbr⟩ := hrel; have hsr := hbr.size; have hm := pad_mod n z hn hz
  by_cases hze : z = padN n
  · have hm2 : (((n : Int) + 1 + (z : Int)) % 64 != 56) = false := by
      have := hm.2 hze
      simp; omega
    clear hm; subst hze; have hcv : IntKind.u64.wrap (count : Int) = (count : Int) := IntWalk.u64_in _ (by omega)
    go_wp2_with fail
    clear hcv; rw [cnt_wrap count]; refine (refPut_reads _ 8 (by omega) _).mono ?_; rintro e w4 ⟨A4, c4, rfl, hv4, hb4⟩; have HV := qq hv4; have HO := qq (own_below HO.out hb4); have hB4 : Below w1.heap.size w1 w4 := below_via hbr hb4 hsr; have hs4 := hB4.size; clear hv4 hb4
    go_wp2_with (at_builtin; refine wpList_append_rd rfl _ _ 27 rfl i0 (.int .u8 0) 1 Tryz.underlying27 hi hz0 hz1 hz2 rfl (by decide) rfl HO.out rfl HV.out (oneCell_bytes _) ?c1 ?c2 ?c3 ?_)
    case c1 => unfold maxLen; omega
    case c2 => omega
    case c3 => omega
    intro A5 c5 w5 hown5 hg5 hb5; have hB5 : Below w1.heap.size w1 w5 := hB4.trans hb5; obtain ⟨K, hK, hTK⟩ : ∃ K, Hid ((if n + 9 <= 64 then 1 else 2) = K) ∧ n + 1 + padN n + 8 = 64 * K := ⟨if n + 9 <= 64 then 1 else 2, rfl, pad_len n hn⟩; have hK2 : K <= 2 := by have := hK.out; split at this <;> omega
    rw [hTK] at hown5 ⊢; have H5 : Hid (Bytes w5 A5 (64 * K) c5 (l ++ padL n count)) := by
     have := own_rd hown5; unfold Hid Bytes; rw [padL_cnt]
     simpa using this
    have h5a := H5.out.le; have h5b := H5.out.cap; have HK5 := qs HK hB5; have HH5 := qs HH hB5
    generalize hLL : l ++ padL n count = L at *
    have HLL := qq hLL; clear hLL hown5 hg5 hb5 hTK HO HV hB4 hs4 hm2 hz hsr hbr hw2 hs2; go_wp2
    go_loopw [0, 9] (fun h i wz => ∃ (j cc : Nat) (AA : Option Addr), j <= K ∧ h = .slice AA 8 cc ∧ i = .int .i64 (64 * (j : Int)) ∧ Hid (Words wz AA 8 cc (stL (blocksL s L j))) ∧ Below w5.heap.size w5 wz) (fun _ i _ => 64 * K - (intOf i).toNat)
    case atStart => exact ⟨0, ch, Ah, by omega, rfl, rfl, HH5, by go_grown⟩
    case round =>
     clear HH5; obtain ⟨j, cc, AA, hj, rfl, rfl, HW, hbz⟩ := hrel
     by_cases hjK : j < K
     · have q1 : (64 : Int) * (j : Int) < 64 * (K : Int) := by omega
       have hcut := (H5.out.stays hbz).cut (64 * j) (64 * j + 64) (by omega) (by omega); rw [show 64 * j + 64 - 64 * j = 64 by omega] at hcut; rw [if_neg (by omega)] at hcut; have HC := qq hcut; clear hcut
       go_wp2_with fail
       refine (refBlock_any _ _ _ _ _ _ _ _ _ HW.out (HK5.out.stays hbz) HC.out).mono ?_; rintro e w6 ⟨A6, rfl, hv6, hb6⟩; have HV6 := qq hv6; have hB6 := hbz.trans (hb6.mono hbz.size); clear hv6 hb6 HC HW; go_wp2
       go_roundw
       case rel => exact ⟨j + 1, 8, A6, by omega, rfl, by go_num, HV6, hB6⟩
       case measure => simp [intOf]; omega
     · obtain rfl : j = K := by omega
       obtain ⟨S, hS, hSi⟩ : ∃ S, Hid (blocksL s L j = S) ∧ InS S := ⟨_, rfl, blocks_in hs L j⟩; rw [hS.out] at HW; have hSS := qq hSi; have hfin : Hid (finL s l count = outTo S 8) := by
        unfold Hid; rw [finL, outTo_end, <- hS.out, <- HLL.out, HL.out, hK.out]
       have hB7 := hB5.trans (hbz.mono hB5.size); clear hSi; obtain ⟨wo, rfl⟩ : ∃ wo : World, wo = wr := ⟨_, rfl⟩; go_wp2
       go_loopw [10, 11] (fun o i wz => ∃ (k cc : Nat) (AA : Option Addr), k <= 8 ∧ o = .slice AA (4 * k) cc ∧ i = .int .i64 k ∧ Hid (wz.ownsRow wo.heap.size 5 1 (.slice AA (4 * k) cc) (4 * k) ((outTo S k).map byteV)) ∧ Below wo.heap.size wo wz) (fun _ i _ => 8 - (intOf i).toNat)
       case atStart => exact ⟨0, 0, _, by omega, rfl, rfl, World.ownsRow_lit wo _ _ (Nat.le_refl _) (by decide) rfl, by go_grown⟩
       case round =>
        obtain ⟨k, cc, AA2, hk, rfl, rfl, HO2, hbz2⟩ := hrel; have hz2s := hbz2.size
        by_cases hk8 : k < 8
        · obtain ⟨b, off, rfl, hc0⟩ := (HW.out.stays hbz2).at_ hk8; have hin := wAt_stL hSS.out k; have hst := qq (outTo_step S k hk8)
          generalize wAt (stL S) k = X at *
          obtain ⟨h0, h1⟩ := hin; obtain ⟨x, rfl⟩ := Int.eq_ofNat_of_zero_le h0; have hcv : IntKind.u64.wrap (x : Int) = (x : Int) := IntWalk.u64_in _ (by omega); rw [Int.toNat_natCast] at hst; have hk7 : k <= 7 := by omega
          have hki : (k : Int) < 8 := by omega
          clear hk8
          go_wp2_with fail
          clear hcv; refine (refPut_reads x 4 (by omega) _).mono ?_; rintro e w8 ⟨A8, c8, rfl, hv8, hb8⟩; have HV := qq hv8; have HO8 := qq (own_below HO2.out hb8); have hB8 : Below wo.heap.size wo w8 := below_via hbz2 hb8 hz2s; have hs8 := hB8.size; clear hv8 hb8
          go_wp2_with (at_builtin; refine wpList_append_rd rfl _ _ 27 rfl i0 (.int .u8 0) 1 Tryz.underlying27 hi hz0 hz1 hz2 rfl (by decide) rfl HO8.out rfl HV.out (oneCell_bytes _) ?c1 ?c2 ?c3 ?_)
          case c1 => unfold maxLen; omega
          case c2 => omega
          case c3 => omega
          intro A9 c9 w9 hown9 hg9 hb9; have H9 := qq hown9; have hB9 : Below wo.heap.size wo w9 := hB8.trans hb9; clear hown9 hg9 hb9; go_wp2
          go_roundw
          case rel =>
           refine ⟨k + 1, c9, A9, by omega, rfl, by go_num, ?_, hB9⟩; unfold Hid; rw [hst.out, List.map_append]; exact H9.out
          case measure => simp [intOf]; omega
        · obtain rfl : k = 8 := by omega
          have hsz7 := hB7.size; go_wp2; go_ret; refine ⟨AA2, cc, rfl, ?_, ?_⟩
          · rw [hfin.out]; exact own_more HO2.out (by omega)
          · exact R1.out.trans ((hB7.trans (hbz2.mono hsz7)).mono hB1)
  · have hm2 : (((n : Int) + 1 + (z : Int)) % 64 != 56) = true := by
      have : ¬ (n + 1 + z) % 64 = 56 := fun e => hze (hm.1 e)
      simp; omega
    clear hm; have HO := qq (own_alloc HO.out (.cells #[.int .u8 0] 5))
    go_wp2_with (at_builtin; refine wpList_append_rd rfl _ _ 27 rfl i0 (.int .u8 0) 1 Tryz.underlying27 hi hz0 hz1 hz2 rfl (by decide) rfl HO.out rfl (rd_one _ _ _) (oneCell_bytes [0]) ?c1 ?c2 ?c3 ?_)
    case c1 => unfold maxLen; omega
    case c2 => omega
    case c3 => simp; omega
    intro A4 c4 w4 hown4 hg4 hb4; have hB4 : Below w1.heap.size w1 w4 := (hbr.alloc hsr _).trans hb4; have H4 := qq hown4; clear hown4 hg4 hb4 HO; go_wp2
    go_roundw
    case rel =>
     have h4 := H4.out; simp [byteV] at h4; exact ⟨z + 1, c4, A4, by omega, rfl, by simp [Hid, byteV, List.replicate_succ']; exact h4, hB4⟩
    case measure => simp; omega
theorem refSum_any (l : List UInt8) (Ab : Option Addr) (n cb : Nat) (w : World) (hb : Bytes w Ab n cb l) :
    Calls Tryz.prog 35 #[.slice Ab n cb] w fun e w' => ∃ A' c', e = .returned (.slice A' 32 c') ∧ w'.ownsRow w.heap.size 5 1 (.slice A' 32 c') 32 ((sumL l).map byteV) ∧ Below w.heap.size w w' := by
 have cb1 := hb.le; have cb2 := hb.cap; have HL := qq hb.len; have HB := qq hb; clear hb
 go_enter Tryz.func35, Tryz.ntmps35
 go_wp2_with fail
 refine (refFirst_any _).mono ?_; rintro e w1 ⟨Ah, rfl, hh, hb1⟩; have HH := qq hh; have hB1 := hb1.size; have R1 := qq hb1; clear hh hb1
 go_wp2_with fail
 refine (refConst_any _).mono ?_; rintro e w2 ⟨Ak, rfl, hk, hb2⟩; have HK := qq hk; have HH := qs HH hb2; have R2 := R1.out.trans (hb2.mono hB1); have HB := qs HB R2; have hB2 := R2.size; clear hk hb2 R1 hB1; go_wp2; obtain ⟨K, hK⟩ : ∃ K, n / 64 = K := ⟨_, rfl⟩; obtain ⟨N, hN⟩ : ∃ N, 64 * K = N := ⟨_, rfl⟩; rw [show (n : Int) / 64 * 64 = (N : Int) by omega]
 go_loopw [3, 6] (fun h i wz => ∃ (j cc : Nat) (AA : Option Addr), j <= K ∧ h = .slice AA 8 cc ∧ i = .int .i64 (64 * (j : Int)) ∧ Hid (Words wz AA 8 cc (stL (blocksL firstS l j))) ∧ Below w2.heap.size w2 wz) (fun _ i _ => 64 * K - (intOf i).toNat)
 case atStart => exact ⟨0, 8, Ah, by omega, rfl, rfl, HH, by go_grown⟩
 case round =>
  clear HH; obtain ⟨j, cc, AA, hj, rfl, rfl, HW, hbz⟩ := hrel
  by_cases hjK : j < K
  · have q1 : (64 : Int) * (j : Int) < (N : Int) := by omega
    have hcut := (HB.out.stays hbz).cut (64 * j) (64 * j + 64) (by omega) (by omega); rw [show 64 * j + 64 - 64 * j = 64 by omega] at hcut; rw [if_neg (by omega)] at hcut; have HC := qq hcut; clear hcut
    go_wp2_with fail
    refine (refBlock_any _ _ _ _ _ _ _ _ _ HW.out (HK.out.stays hbz) HC.out).mono ?_; rintro e w6 ⟨A6, rfl, hv6, hb6⟩; have HV6 := qq hv6; have hB6 := hbz.trans (hb6.mono hbz.size); clear hv6 hb6 HC HW; go_wp2
    go_roundw
    case rel => exact ⟨j + 1, 8, A6, by omega, rfl, by go_num, HV6, hB6⟩
    case measure => simp [intOf]; omega
  · have q1 : ¬ (64 : Int) * (j : Int) < (N : Int) := by omega
    obtain rfl : j = K := by omega
    have hBz := hbz.size; have RZ := R2.trans (hbz.mono hB2); have HBz := qs HB hbz; have hcut := HBz.out.cut N n (by omega) (by omega); rw [List.take_of_length_le (by rw [List.length_drop, HL.out]; exact Nat.le_refl _)] at hcut; have HC := qq hcut; have HE : Hid (sumL l = finL (blocksL firstS l j) (l.drop N) n) := by
     unfold Hid; rw [sumL, wholeS, restL, HL.out, hK, hN]
    have hx := blocks_in first_in l j; have hNn : N <= n := by omega
    generalize blocksL firstS l j = S at HW HE hx
    have HX := qq hx; clear hx
    by_cases hcN : cb = N
    all_goals
     first | rw [if_pos hcN, show cb - N = 0 by omega] at HC | rw [if_neg hcN] at HC
     go_wp2_with fail
     refine (refFinish_any _ HX.out _ _ _ _ _ _ n _ HW.out HC.out (by omega) (by omega)).mono ?_; rintro e w7 ⟨A7, c7, rfl, hv7, hb7⟩; have HO := qq (own_more (B' := w.heap.size) hv7 (by omega)); have R7 := RZ.trans (hb7.mono (by omega)); clear hv7 hb7; go_wp2; go_ret; exact ⟨_, _, rfl, by rw [HE.out]; exact HO.out, R7⟩

theorem Bytes.cut0 {w : World} {A : Option Addr} {n c : Nat} {l : List UInt8} (h : Bytes w A n c l) (m : Nat) (hm : m <= n) : Bytes w A m c (l.take m) := by
 refine ⟨by have := h.len; simp; omega, Nat.le_trans hm h.le, h.2.2.1, fun i u hu => ?_⟩; rw [List.map_take, List.getElem?_take] at hu
 split at hu
 · exact h.2.2.2 i u hu
 · cases hu
theorem Bytes.cap_ {w : World} {A : Option Addr} {n c : Nat} {l : List UInt8} (h : Bytes w A n c l) : Bytes w A n n l := ⟨h.1, Nat.le_refl _, Nat.le_trans h.le h.2.2.1, h.2.2.2⟩
set_option maxHeartbeats 8000000 in
theorem wbytes_any (s n : Nat) (w : World) (hs : s < 18446744073709551616) (hs2 : s <= 9223372036854775807) (hn : n <= 100000) :
    Calls Tryz.prog 9 #[.int .i64 s, .int .i64 n] w fun e w' => ∃ A' c', e = .returned (.slice A' n c') ∧ Bytes w' A' n c' (wbytesL s n) ∧ Below w.heap.size w w' := by
 obtain ⟨i0, hi, hz0, hz1, hz2⟩ := info_parts infoByteA; have hcv : IntKind.u64.wrap (s : Int) = (s : Int) := IntWalk.u64_in _ (by omega)
 go_enter Tryz.func9, Tryz.ntmps9
 go_wp2
 go_loopw [5, 6] (fun o i wr => ∃ (j m cc : Nat) (AA : Option Addr), 32 * j <= n + 31 ∧ o = .slice AA m cc ∧ i = .int .i64 j ∧ Hid (m = 32 * j) ∧ Hid (wr.ownsRow w.heap.size 5 1 (.slice AA m cc) m ((streamL s j).map byteV)) ∧ Below w.heap.size w wr) (fun _ i _ => n - 32 * (intOf i).toNat)
 case atStart => exact ⟨0, 0, _, _, by omega, rfl, rfl, rfl, World.ownsRow_lit w _ _ (Nat.le_refl _) (by decide) rfl, by go_grown⟩
 case round =>
  obtain ⟨j, m, cc, AA, hj, rfl, rfl, hm, HO, hbr⟩ := hrel; have hsr := hbr.size
  by_cases hmn : m < n
  · have hmi : (m : Int) < (n : Int) := by omega
    have hcj : IntKind.u64.wrap (j : Int) = (j : Int) := IntWalk.u64_in _ (by omega); have hj2 : j <= 1000000 := by omega
    have hm2 : m <= 1000000 := by omega
    go_wp2_with fail
    clear hcv hcj; refine (refPut_reads s 8 (by omega) _).mono ?_; rintro e w1 ⟨A1, c1, rfl, hv1, hb1⟩; have V1 := qq hv1; have HO1 := qq (own_below HO.out hb1); have R1 : Below w.heap.size w w1 := below_via hbr hb1 hsr; have hs1 := R1.size; clear hv1 hb1; have hcj : IntKind.u64.wrap (j : Int) = (j : Int) := IntWalk.u64_in _ (by omega)
    go_wp2_with fail
    clear hcj; refine (refPut_reads j 4 (by omega) _).mono ?_; rintro e w2 ⟨A2, c2, rfl, hv2, hb2⟩; have V2 := qq hv2; have V1 := qs V1 hb2; have HO2 := qq (own_below HO1.out hb2); have R2 : Below w.heap.size w w2 := below_via R1 hb2 hs1; have hs2 := R2.size; clear hv2 hb2
    go_wp2_with fail
    refine (refJoin_any _ _ _ [putL s 8, putL j 4] _ (lists_made2 V1.out V2.out) 12 (by simp [putL_length]) (by omega)).mono ?_; rintro e w3 ⟨A3, c3, rfl, hv3, hb3⟩; have hbx : Below w2.heap.size w2 w3 := below_via (by go_grown) hb3 (by simp); have V3 : Hid (Bytes w3 A3 12 c3 (putL s 8 ++ putL j 4)) := by
     have := own_rd hv3
     simpa [Hid, Bytes] using this
    have HO3 := qq (own_below HO2.out hbx); have R3 : Below w.heap.size w w3 := below_via R2 hbx hs2; have hs3 := R3.size; clear hv3 hb3 hbx
    go_wp2_with fail
    refine (refSum_any _ _ _ _ _ V3.out).mono ?_; rintro e w4 ⟨A4, c4, rfl, hv4, hb4⟩; have V4 : Hid (Bytes w4 A4 32 c4 (ctrL s j)) := own_rd hv4; have HO4 := qq (own_below HO3.out hb4); have R4 : Below w.heap.size w w4 := below_via R3 hb4 hs3; have hs4 := R4.size; clear hv4 hb4
    go_wp2_with (at_builtin; refine wpList_append_rd rfl _ _ 27 rfl i0 (.int .u8 0) 1 Tryz.underlying27 hi hz0 hz1 hz2 rfl (by decide) rfl HO4.out rfl V4.out (oneCell_bytes _) ?c1 ?c2 ?c3 ?_)
    case c1 => have := hm.out; unfold maxLen; omega
    case c2 => have := hm.out; omega
    case c3 => omega
    intro A8 c8 w8 hown8 hg8 hb8; have H8 := qq hown8; have hB8 := R4.trans hb8; clear hown8 hg8 hb8; have hcv : IntKind.u64.wrap (s : Int) = (s : Int) := IntWalk.u64_in _ (by omega); go_wp2
    go_roundw
    case rel =>
     refine ⟨j + 1, m + 32, c8, A8, by have := hm.out; omega, rfl, by go_num, by have := hm.out; unfold Hid; omega, ?_, hB8⟩; unfold Hid; rw [streamL, List.map_append]; exact H8.out
    case measure => have := hm.out; simp [intOf]; omega
  · have hmi : ¬ (m : Int) < (n : Int) := by omega
    have hr : Bytes wr AA m cc (streamL s j) := own_rd HO.out; have q1 := hr.le; have q2 := hr.cap; have hcut := hr.cut0 n (by omega); rw [wbytesL_of s n j (by have := hm.out; omega)] at hcut; have HC := qq hcut; clear hcut hr; go_wp2; go_ret; exact ⟨_, _, rfl, HC.out, hbr⟩
theorem key_any (s : Nat) (w : World) (hs : s <= 9223372036854775807) :
    Calls Tryz.prog 23 #[.int .i64 s] w fun e w' => ∃ A' c', e = .returned (.slice A' 32 c') ∧ Bytes w' A' 32 c' (wbytesL s 32) ∧ Below w.heap.size w w' := by
 go_enter Tryz.func23, Tryz.ntmps23
 go_wp2_with fail
 refine (wbytes_any s 32 _ (by omega) hs (by omega)).mono ?_; rintro e w1 ⟨A1, c1, rfl, hv, hb⟩; have V1 := qq hv; clear hv; go_wp2; go_ret; exact ⟨_, _, rfl, V1.out, hb⟩
set_option maxHeartbeats 8000000 in
theorem wbytes_new (s n : Nat) (w : World) (hs : s < 18446744073709551616) (hs2 : s <= 9223372036854775807) (hn : n <= 100000) :
    Calls Tryz.prog 9 #[.int .i64 s, .int .i64 n] w fun e w' => ∃ A' c', e = .returned (.slice A' n c') ∧ Bytes w' A' n c' (wbytesL s n) ∧ Fresh w.heap.size A' ∧ Below w.heap.size w w' := by
 obtain ⟨i0, hi, hz0, hz1, hz2⟩ := info_parts infoByteA; have hcv : IntKind.u64.wrap (s : Int) = (s : Int) := IntWalk.u64_in _ (by omega)
 go_enter Tryz.func9, Tryz.ntmps9
 go_wp2
 go_loopw [5, 6] (fun o i wr => ∃ (j m cc : Nat) (AA : Option Addr), 32 * j <= n + 31 ∧ o = .slice AA m cc ∧ i = .int .i64 j ∧ Hid (m = 32 * j) ∧ Hid (wr.ownsRow w.heap.size 5 1 (.slice AA m cc) m ((streamL s j).map byteV)) ∧ Below w.heap.size w wr) (fun _ i _ => n - 32 * (intOf i).toNat)
 case atStart => exact ⟨0, 0, _, _, by omega, rfl, rfl, rfl, World.ownsRow_lit w _ _ (Nat.le_refl _) (by decide) rfl, by go_grown⟩
 case round =>
  obtain ⟨j, m, cc, AA, hj, rfl, rfl, hm, HO, hbr⟩ := hrel; have hsr := hbr.size
  by_cases hmn : m < n
  · have hmi : (m : Int) < (n : Int) := by omega
    have hcj : IntKind.u64.wrap (j : Int) = (j : Int) := IntWalk.u64_in _ (by omega); have hj2 : j <= 1000000 := by omega
    have hm2 : m <= 1000000 := by omega
    go_wp2_with fail
    clear hcv hcj; refine (refPut_reads s 8 (by omega) _).mono ?_; rintro e w1 ⟨A1, c1, rfl, hv1, hb1⟩; have V1 := qq hv1; have HO1 := qq (own_below HO.out hb1); have R1 : Below w.heap.size w w1 := below_via hbr hb1 hsr; have hs1 := R1.size; clear hv1 hb1; have hcj : IntKind.u64.wrap (j : Int) = (j : Int) := IntWalk.u64_in _ (by omega)
    go_wp2_with fail
    clear hcj; refine (refPut_reads j 4 (by omega) _).mono ?_; rintro e w2 ⟨A2, c2, rfl, hv2, hb2⟩; have V2 := qq hv2; have V1 := qs V1 hb2; have HO2 := qq (own_below HO1.out hb2); have R2 : Below w.heap.size w w2 := below_via R1 hb2 hs1; have hs2 := R2.size; clear hv2 hb2
    go_wp2_with fail
    refine (refJoin_any _ _ _ [putL s 8, putL j 4] _ (lists_made2 V1.out V2.out) 12 (by simp [putL_length]) (by omega)).mono ?_; rintro e w3 ⟨A3, c3, rfl, hv3, hb3⟩; have hbx : Below w2.heap.size w2 w3 := below_via (by go_grown) hb3 (by simp); have V3 : Hid (Bytes w3 A3 12 c3 (putL s 8 ++ putL j 4)) := by
     have := own_rd hv3
     simpa [Hid, Bytes] using this
    have HO3 := qq (own_below HO2.out hbx); have R3 : Below w.heap.size w w3 := below_via R2 hbx hs2; have hs3 := R3.size; clear hv3 hb3 hbx
    go_wp2_with fail
    refine (refSum_any _ _ _ _ _ V3.out).mono ?_; rintro e w4 ⟨A4, c4, rfl, hv4, hb4⟩; have V4 : Hid (Bytes w4 A4 32 c4 (ctrL s j)) := own_rd hv4; have HO4 := qq (own_below HO3.out hb4); have R4 : Below w.heap.size w w4 := below_via R3 hb4 hs3; have hs4 := R4.size; clear hv4 hb4
    go_wp2_with (at_builtin; refine wpList_append_rd rfl _ _ 27 rfl i0 (.int .u8 0) 1 Tryz.underlying27 hi hz0 hz1 hz2 rfl (by decide) rfl HO4.out rfl V4.out (oneCell_bytes _) ?c1 ?c2 ?c3 ?_)
    case c1 => have := hm.out; unfold maxLen; omega
    case c2 => have := hm.out; omega
    case c3 => omega
    intro A8 c8 w8 hown8 hg8 hb8; have H8 := qq hown8; have hB8 := R4.trans hb8; clear hown8 hg8 hb8; have hcv : IntKind.u64.wrap (s : Int) = (s : Int) := IntWalk.u64_in _ (by omega); go_wp2
    go_roundw
    case rel =>
     refine ⟨j + 1, m + 32, c8, A8, by have := hm.out; omega, rfl, by go_num, by have := hm.out; unfold Hid; omega, ?_, hB8⟩; unfold Hid; rw [streamL, List.map_append]; exact H8.out
    case measure => have := hm.out; simp [intOf]; omega
  · have hmi : ¬ (m : Int) < (n : Int) := by omega
    have hr : Bytes wr AA m cc (streamL s j) := own_rd HO.out; have q1 := hr.le; have q2 := hr.cap; have hcut := hr.cut0 n (by omega); rw [wbytesL_of s n j (by have := hm.out; omega)] at hcut; have HC := qq hcut; have HF := qq (Fresh.own HO.out); clear hcut hr; go_wp2; go_ret; exact ⟨_, _, rfl, HC.out, HF.out, hbr⟩
set_option maxHeartbeats 8000000 in
theorem wbytes_neg (si : Int) (s n : Nat) (w : World) (hcv : IntKind.u64.wrap si = (s : Int)) (hs : s < 18446744073709551616) (hn : n <= 100000) :
    Calls Tryz.prog 9 #[.int .i64 si, .int .i64 n] w fun e w' => ∃ A' c', e = .returned (.slice A' n c') ∧ Bytes w' A' n c' (wbytesL s n) ∧ Fresh w.heap.size A' ∧ Below w.heap.size w w' := by
 obtain ⟨i0, hi, hz0, hz1, hz2⟩ := info_parts infoByteA; have HCV := qq hcv
 go_enter Tryz.func9, Tryz.ntmps9
 go_wp2
 go_loopw [5, 6] (fun o i wr => ∃ (j m cc : Nat) (AA : Option Addr), 32 * j <= n + 31 ∧ o = .slice AA m cc ∧ i = .int .i64 j ∧ Hid (m = 32 * j) ∧ Hid (wr.ownsRow w.heap.size 5 1 (.slice AA m cc) m ((streamL s j).map byteV)) ∧ Below w.heap.size w wr) (fun _ i _ => n - 32 * (intOf i).toNat)
 case atStart => exact ⟨0, 0, _, _, by omega, rfl, rfl, rfl, World.ownsRow_lit w _ _ (Nat.le_refl _) (by decide) rfl, by go_grown⟩
 case round =>
  obtain ⟨j, m, cc, AA, hj, rfl, rfl, hm, HO, hbr⟩ := hrel; have hsr := hbr.size
  by_cases hmn : m < n
  · have hmi : (m : Int) < (n : Int) := by omega
    have hcj : IntKind.u64.wrap (j : Int) = (j : Int) := IntWalk.u64_in _ (by omega); have hj2 : j <= 1000000 := by omega
    have hm2 : m <= 1000000 := by omega
    go_wp2_with fail
    clear hcv hcj; refine (refPut_reads s 8 (by omega) _).mono ?_; rintro e w1 ⟨A1, c1, rfl, hv1, hb1⟩; have V1 := qq hv1; have HO1 := qq (own_below HO.out hb1); have R1 : Below w.heap.size w w1 := below_via hbr hb1 hsr; have hs1 := R1.size; clear hv1 hb1; have hcj : IntKind.u64.wrap (j : Int) = (j : Int) := IntWalk.u64_in _ (by omega)
    go_wp2_with fail
    clear hcj; refine (refPut_reads j 4 (by omega) _).mono ?_; rintro e w2 ⟨A2, c2, rfl, hv2, hb2⟩; have V2 := qq hv2; have V1 := qs V1 hb2; have HO2 := qq (own_below HO1.out hb2); have R2 : Below w.heap.size w w2 := below_via R1 hb2 hs1; have hs2 := R2.size; clear hv2 hb2
    go_wp2_with fail
    refine (refJoin_any _ _ _ [putL s 8, putL j 4] _ (lists_made2 V1.out V2.out) 12 (by simp [putL_length]) (by omega)).mono ?_; rintro e w3 ⟨A3, c3, rfl, hv3, hb3⟩; have hbx : Below w2.heap.size w2 w3 := below_via (by go_grown) hb3 (by simp); have V3 : Hid (Bytes w3 A3 12 c3 (putL s 8 ++ putL j 4)) := by
     have := own_rd hv3
     simpa [Hid, Bytes] using this
    have HO3 := qq (own_below HO2.out hbx); have R3 : Below w.heap.size w w3 := below_via R2 hbx hs2; have hs3 := R3.size; clear hv3 hb3 hbx
    go_wp2_with fail
    refine (refSum_any _ _ _ _ _ V3.out).mono ?_; rintro e w4 ⟨A4, c4, rfl, hv4, hb4⟩; have V4 : Hid (Bytes w4 A4 32 c4 (ctrL s j)) := own_rd hv4; have HO4 := qq (own_below HO3.out hb4); have R4 : Below w.heap.size w w4 := below_via R3 hb4 hs3; have hs4 := R4.size; clear hv4 hb4
    go_wp2_with (at_builtin; refine wpList_append_rd rfl _ _ 27 rfl i0 (.int .u8 0) 1 Tryz.underlying27 hi hz0 hz1 hz2 rfl (by decide) rfl HO4.out rfl V4.out (oneCell_bytes _) ?c1 ?c2 ?c3 ?_)
    case c1 => have := hm.out; unfold maxLen; omega
    case c2 => have := hm.out; omega
    case c3 => omega
    intro A8 c8 w8 hown8 hg8 hb8; have H8 := qq hown8; have hB8 := R4.trans hb8; clear hown8 hg8 hb8; have hcv := HCV.out; go_wp2
    go_roundw
    case rel =>
     refine ⟨j + 1, m + 32, c8, A8, by have := hm.out; omega, rfl, by go_num, by have := hm.out; unfold Hid; omega, ?_, hB8⟩; unfold Hid; rw [streamL, List.map_append]; exact H8.out
    case measure => have := hm.out; simp [intOf]; omega
  · have hmi : ¬ (m : Int) < (n : Int) := by omega
    have hr : Bytes wr AA m cc (streamL s j) := own_rd HO.out; have q1 := hr.le; have q2 := hr.cap; have hcut := hr.cut0 n (by omega); rw [wbytesL_of s n j (by have := hm.out; omega)] at hcut; have HC := qq hcut; have HF := qq (Fresh.own HO.out); clear hcut hr; go_wp2; go_ret; exact ⟨_, _, rfl, HC.out, HF.out, hbr⟩
end Go.Proofs.YtiemnacoebkalaaGreat
