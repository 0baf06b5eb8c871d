/- The walk of KissKeepsBounds. -/
import Derived.Test.YtnpfndlmbaafaaaKissF
import Derived.Test.YtnpfndlmbaafaaaTape
import Derived.Test.YtnpfndlmbaafaaaBlk
import Derived.Deep.DeepCutAuto
namespace Go.Proofs.Ytnpfndlmbaafaaa
open Go.RowKit

/-- What the loop keeps. -/
structure KB (w : World) (tb pb : Nat) (l : List Int) (p : Int) (s f : Bool) (wr : World) : Prop where
  tape : ∃ k, Tape w.heap.size wr tb l k
  blk : Blk wr pb 81 #[.int .i64 p, .bool s, .bool f]
  below : Below w.heap.size w wr
  ne : tb ≠ pb
  ge : w.heap.size ≤ pb
  lo : 4 ≤ p
  hi : p ≤ 17
section
variable {w : World} {tb pb : Nat} {l : List Int} {p : Int} {s f : Bool} {wr w1 : World}
theorem KB.stays (h : KB w tb pb l p s f wr) (hb : Below wr.heap.size wr w1) : KB w tb pb l p s f w1 := by
  obtain ⟨k, hk⟩ := h.tape
  exact ⟨⟨k, hk.stays hb⟩, h.blk.stays hb, below_via h.below hb h.below.size, h.ne, h.ge, h.lo, h.hi⟩
theorem KB.step (h : KB w tb pb l p s f wr) {k : Nat} (ht : Tape w.heap.size w1 tb l k) (ho : Only tb wr w1) : KB w tb pb l p s f w1 :=
  ⟨⟨k, ht⟩, h.blk.grown ho (fun e => h.ne (by injection e with e; exact e.symm)), h.below.grown ho h.below.size (fun k hk => by injection hk with hk; subst hk; exact ht.ge), h.ne, h.ge, h.lo, h.hi⟩
theorem KB.set (h : KB w tb pb l p s f wr) (p' : Int) (s' f' : Bool) (h1 : 4 ≤ p') (h2 : p' ≤ 17) :
    KB w tb pb l p' s' f' (((wr.setCell ⟨pb, 0, none⟩ (.int .i64 p')).setCell ⟨pb, 1, none⟩ (.bool s')).setCell ⟨pb, 2, none⟩ (.bool f')) := by
  obtain ⟨k, hk⟩ := h.tape
  have hne := h.ne
  have hge := h.ge
  refine ⟨⟨k, hk.keep fun j hj => ?_⟩, ((h.blk.put 0 (.int .i64 p')).put 1 (.bool s')).put 2 (.bool f'), ((h.below.setCell (p := ⟨pb, 0, none⟩) hge _).setCell (p := ⟨pb, 1, none⟩) hge _).setCell (p := ⟨pb, 2, none⟩) hge _, hne, hge, h1, h2⟩
  have hjp : j ≠ pb := by rcases hj with hj | rfl <;> omega
  rw [Below.heap_setCell _ _ _ _ hjp, Below.heap_setCell _ _ _ _ hjp, Below.heap_setCell _ _ _ _ hjp]
end

theorem six (m : Nat) (h : m < 6) : ∃ t : ByteArray, (∀ h', ([.string ⟨#[82, 65, 84, 69]⟩, .string ⟨#[82, 65, 84, 69]⟩, .string ⟨#[78, 84, 83, 78]⟩, .string ⟨#[103, 111, 111, 100]⟩, .string ⟨#[103, 111, 111, 100]⟩, .string ⟨#[68, 69, 78, 89]⟩] : List Value)[m]'h' = .string t) ∧
    (t = ⟨#[82, 65, 84, 69]⟩ ∨ t = ⟨#[78, 84, 83, 78]⟩ ∨ t = ⟨#[103, 111, 111, 100]⟩ ∨ t = ⟨#[68, 69, 78, 89]⟩) := by
  match m, h with
  | 0, _ => exact ⟨_, fun _ => rfl, .inl rfl⟩
  | 1, _ => exact ⟨_, fun _ => rfl, .inl rfl⟩
  | 2, _ => exact ⟨_, fun _ => rfl, .inr (.inl rfl)⟩
  | 3, _ => exact ⟨_, fun _ => rfl, .inr (.inr (.inl rfl))⟩
  | 4, _ => exact ⟨_, fun _ => rfl, .inr (.inr (.inl rfl))⟩
  | 5, _ => exact ⟨_, fun _ => rfl, .inr (.inr (.inr rfl))⟩

theorem react_rate (p : Int) (s f : Bool) (h1 : 4 ≤ p) (h2 : p ≤ 17) : react p s f ⟨#[82, 65, 84, 69]⟩ = (min (p + 1) 17, s, f, 0) := by
  rw [react, if_neg (by omega), if_neg (by decide +kernel), if_neg (by decide +kernel), if_pos (by decide +kernel)]
theorem react_ntsn (p : Int) (s f : Bool) (h1 : 4 ≤ p) (h2 : p ≤ 17) : react p s f ⟨#[78, 84, 83, 78]⟩ = (p, s, true, 0) := by
  rw [react, if_neg (by omega), if_neg (by decide +kernel), if_neg (by decide +kernel), if_neg (by decide +kernel), if_pos (by decide +kernel)]
theorem react_deny (p : Int) (s f : Bool) (h1 : 4 ≤ p) (h2 : p ≤ 17) : react p s f ⟨#[68, 69, 78, 89]⟩ = (p, true, f, 0) := by
  rw [react, if_neg (by omega), if_pos (by decide +kernel)]
theorem react_good (p : Int) (s f : Bool) (h1 : 4 ≤ p) (h2 : p ≤ 17) : react p s f ⟨#[103, 111, 111, 100]⟩ = (0, false, false, 11) := by
  rw [react, if_neg (by omega), if_neg (by decide +kernel), if_neg (by decide +kernel), if_neg (by decide +kernel), if_neg (by decide +kernel)]

set_option maxRecDepth 100000 in
set_option maxHeartbeats 4000000 in
theorem kissKeeps_walk (A : Option Addr) (n c : Nat) (l : List Int) (a1 : Int) (w : World) (hv : Rd w 1 A n c (l.map (Value.int .i64))) :
    Calls Try.prog 14 #[.slice A n c, .int .i64 a1] w fun e w' => e = .returned (.bool true) ∧ Below w.heap.size w w' := by
  have hn : n ≤ 9223372036854775807 := by
    have h1 := hv.2.1
    have h2 := hv.2.2.1
    rw [show maxLen = 9223372036854775807 from rfl] at h2
    omega
  have CN := Lib.hid (tape_new A n c l w hv hn)
  clear hv hn
  obtain ⟨q, hq⟩ : ∃ q, a1 % 14 = q := ⟨_, rfl⟩
  have hq1 : 0 ≤ q := by omega
  have hq2 : q < 14 := by omega
  have cq := Lib.hid (fun W => within_any a1 14 (by omega) (by omega) W); rw [hq] at cq
  clear hq
  go_enter Try.func14, Try.ntmps14
  go_wp2_with fail
  refine CN.out.mono ?_
  rintro e w1 ⟨tb, rfl, ht, hb1⟩
  have htl := ht.lt
  have hs1 := hb1.size
  go_wp2_with fail
  refine (cq.out _).mono ?_
  rintro e w2 ⟨rfl, rfl⟩
  go_wp2_with fail
  obtain ⟨wk, pb, hwk, hpb⟩ : ∃ wk pb, wk = w1.alloc (.cells #[.int .i64 (4 + q), .bool false, .bool false] 81) ∧ pb = w1.heap.size := ⟨_, _, rfl, rfl⟩
  rw [← hwk, ← hpb]
  have hk0 : KB w tb pb l (4 + q) false false wk := by
    have hb2 : Below w1.heap.size w1 wk := by rw [hwk]; go_grown
    exact ⟨⟨0, ht.stays hb2⟩, by rw [hwk, hpb]; exact Blk.new _ _ _, hb1.trans (hb2.mono hs1), by omega, by omega, by omega, by omega⟩
  clear hwk hpb ht hb1 htl hs1 CN cq
  go_loopw [7] (fun i wr => ∃ j : Nat, j ≤ 20 ∧ i = .int .i64 j ∧ ∃ p s f, KB w tb pb l p s f wr) (fun i _ => 20 - (intOf i).toNat)
  case atStart => exact ⟨0, by omega, rfl, _, _, _, hk0⟩
  case round =>
    obtain ⟨j, hj, rfl, p, s, f, hk⟩ := hrel
    clear hk0
    by_cases hj2 : j < 20
    · go_upto_region 6 with fail
      go_cut [8] (fun s8 wx => ∃ t : ByteArray, s8 = .string t ∧ (t = ⟨#[82, 65, 84, 69]⟩ ∨ t = ⟨#[78, 84, 83, 78]⟩ ∨ t = ⟨#[103, 111, 111, 100]⟩ ∨ t = ⟨#[68, 69, 78, 89]⟩) ∧ KB w tb pb l p s f wx)
      case first =>
        obtain ⟨wa, hwa⟩ : ∃ wa, wa = wr.alloc (.cells #[.string ⟨#[82, 65, 84, 69]⟩, .string ⟨#[82, 65, 84, 69]⟩, .string ⟨#[78, 84, 83, 78]⟩, .string ⟨#[103, 111, 111, 100]⟩, .string ⟨#[103, 111, 111, 100]⟩, .string ⟨#[68, 69, 78, 89]⟩] 9) := ⟨_, rfl⟩
        have hka : KB w tb pb l p s f wa := hk.stays (by rw [hwa]; go_grown)
        have hba : Blk wa wr.heap.size 9 #[.string ⟨#[82, 65, 84, 69]⟩, .string ⟨#[82, 65, 84, 69]⟩, .string ⟨#[78, 84, 83, 78]⟩, .string ⟨#[103, 111, 111, 100]⟩, .string ⟨#[103, 111, 111, 100]⟩, .string ⟨#[68, 69, 78, 89]⟩] := by rw [hwa]; exact Blk.new _ _ _
        obtain ⟨k, hk'⟩ := hk.tape
        have hlt := hk'.lt
        have hne : (some wr.heap.size : Option Nat) ≠ some tb := by intro e; injection e with e; omega
        obtain ⟨kk, hka'⟩ := hka.tape
        obtain ⟨m, hm⟩ : ∃ m : Nat, tapeAt l kk % 6 = m := Int.eq_ofNat_of_zero_le (by omega)
        have hm6 : m < 6 := by omega
        have ci := Lib.hid (int_any w.heap.size tb l kk 6 (by omega) (by omega) wa hka')
        rw [hm] at ci
        have hm1 : (0 : Int) ≤ (m : Int) := by omega
        have hm2 : (m : Int) < 6 := by omega
        obtain ⟨t, ht1, ht2⟩ := six m hm6
        clear hm hk' hka' hk
        go_wp2_with fail
        rw [← hwa]
        refine ci.out.mono ?_
        rintro e w2 ⟨k2, rfl, ht, ho⟩
        have hk2 := hka.step ht ho
        have hb2 := hba.grown ho hne
        have hs := hb2.cell m
        have hs : w2.cell? ⟨wr.heap.size, m, none⟩ = some (.string t) := by rw [hs]; simp [hm6, ht1]
        clear hwa hka hba ho ht hb2 ci
        go_wp2_with fail
        go_meet
        exact ⟨t, rfl, ht2, hk2⟩
      case rest =>
      obtain ⟨t, rfl, ht, hk8⟩ := hcut
      obtain ⟨w8, rfl⟩ : ∃ x, x = wc := ⟨_, rfl⟩
      clear hk
      have c0 : w8.cell? ⟨pb, 0, none⟩ = some (.int .i64 p) := hk8.blk.cell 0
      have c1 : w8.cell? ⟨pb, 1, none⟩ = some (.bool s) := hk8.blk.cell 1
      have c2 : w8.cell? ⟨pb, 2, none⟩ = some (.bool f) := hk8.blk.cell 2
      have hlo := hk8.lo
      have hhi := hk8.hi
      rcases ht with rfl | rfl | rfl | rfl
      · have cr := Lib.hid (react_tup p s f ⟨#[82, 65, 84, 69]⟩ w8)
        rw [react_rate p s f hlo hhi] at cr
        obtain ⟨p', hp⟩ : ∃ p', min (p + 1) 17 = p' := ⟨_, rfl⟩
        rw [hp] at cr
        have hp1 : 4 ≤ p' := by omega
        have hp2 : p' ≤ 17 := by omega
        clear hp
        go_wp2_with fail
        refine cr.out.mono ?_
        rintro e w9 ⟨rfl, hb9⟩
        have hk9 := hk8.stays hb9
        clear hb9 hk8 c0 c1 c2 cr
        have c0 : w9.cell? ⟨pb, 0, none⟩ = some (.int .i64 p) := hk9.blk.cell 0
        have c1 : w9.cell? ⟨pb, 1, none⟩ = some (.bool s) := hk9.blk.cell 1
        have c2 : w9.cell? ⟨pb, 2, none⟩ = some (.bool f) := hk9.blk.cell 2
        have hlt9 := hk9.blk.lt
        have hn1 : ¬ w9.heap.size = pb := by omega
        have hn2 : ¬ pb = w9.heap.size := by omega
        go_upto_region 13 with fail
        obtain ⟨wg, g, hwg, hg⟩ : ∃ wg g, wg = w9.alloc (.cells #[.int .i64 p', .bool s, .bool f] 81) ∧ g = w9.heap.size := ⟨_, _, rfl, rfl⟩
        rw [← hwg, ← hg]
        have hkg : KB w tb pb l p s f wg := hk9.stays (by rw [hwg]; go_grown)
        have hbg : Blk wg g 81 #[.int .i64 p', .bool s, .bool f] := by rw [hwg, hg]; exact Blk.new _ _ _
        have hgp : ¬ g = pb := by omega
        have hpg : ¬ pb = g := by omega
        clear hwg hg hk9 c0 c1 c2 hlt9 hn1 hn2
        have c0 : wg.cell? ⟨pb, 0, none⟩ = some (.int .i64 p) := hkg.blk.cell 0
        have c1 : wg.cell? ⟨pb, 1, none⟩ = some (.bool s) := hkg.blk.cell 1
        have c2 : wg.cell? ⟨pb, 2, none⟩ = some (.bool f) := hkg.blk.cell 2
        have g0 : wg.cell? ⟨g, 0, none⟩ = some (.int .i64 p') := hbg.cell 0
        have g1 : wg.cell? ⟨g, 1, none⟩ = some (.bool s) := hbg.cell 1
        have g2 : wg.cell? ⟨g, 2, none⟩ = some (.bool f) := hbg.cell 2
        have f0 := hkg.blk.frozen 0
        have f1 := hkg.blk.frozen 1
        have f2 := hkg.blk.frozen 2
        have hq4 : ¬ p' < 4 := by omega
        have hq17 : ¬ p' > 17 := by omega
        rcases (by omega : p' > p ∨ ¬ p' > p) with hpp | hpp
        all_goals cases s
        all_goals
          go_wp2_with fail
          go_roundw
          case rel => exact ⟨j + 1, by omega, by go_num, _, _, _, hkg.set p' _ f (by omega) (by omega)⟩
          case measure => simp [intOf]; omega
      · have cr := Lib.hid (react_tup p s f ⟨#[78, 84, 83, 78]⟩ w8)
        rw [react_ntsn p s f hlo hhi] at cr
        go_wp2_with fail
        refine cr.out.mono ?_
        rintro e w9 ⟨rfl, hb9⟩
        have hk9 := hk8.stays hb9
        clear hb9 hk8 c0 c1 c2 cr
        have c0 : w9.cell? ⟨pb, 0, none⟩ = some (.int .i64 p) := hk9.blk.cell 0
        have c1 : w9.cell? ⟨pb, 1, none⟩ = some (.bool s) := hk9.blk.cell 1
        have c2 : w9.cell? ⟨pb, 2, none⟩ = some (.bool f) := hk9.blk.cell 2
        have hlt9 := hk9.blk.lt
        have hn1 : ¬ w9.heap.size = pb := by omega
        have hn2 : ¬ pb = w9.heap.size := by omega
        go_upto_region 13 with fail
        obtain ⟨wg, g, hwg, hg⟩ : ∃ wg g, wg = w9.alloc (.cells #[.int .i64 p, .bool s, .bool true] 81) ∧ g = w9.heap.size := ⟨_, _, rfl, rfl⟩
        rw [← hwg, ← hg]
        have hkg : KB w tb pb l p s f wg := hk9.stays (by rw [hwg]; go_grown)
        have hbg : Blk wg g 81 #[.int .i64 p, .bool s, .bool true] := by rw [hwg, hg]; exact Blk.new _ _ _
        have hgp : ¬ g = pb := by omega
        have hpg : ¬ pb = g := by omega
        clear hwg hg hk9 c0 c1 c2 hlt9 hn1 hn2
        have c0 : wg.cell? ⟨pb, 0, none⟩ = some (.int .i64 p) := hkg.blk.cell 0
        have c1 : wg.cell? ⟨pb, 1, none⟩ = some (.bool s) := hkg.blk.cell 1
        have c2 : wg.cell? ⟨pb, 2, none⟩ = some (.bool f) := hkg.blk.cell 2
        have g0 : wg.cell? ⟨g, 0, none⟩ = some (.int .i64 p) := hbg.cell 0
        have g1 : wg.cell? ⟨g, 1, none⟩ = some (.bool s) := hbg.cell 1
        have g2 : wg.cell? ⟨g, 2, none⟩ = some (.bool true) := hbg.cell 2
        have f0 := hkg.blk.frozen 0
        have f1 := hkg.blk.frozen 1
        have f2 := hkg.blk.frozen 2
        have hq4 : ¬ p < 4 := by omega
        have hq17 : ¬ p > 17 := by omega
        have hpp : ¬ p > p := by omega
        all_goals cases s
        all_goals
          go_wp2_with fail
          go_roundw
          case rel => exact ⟨j + 1, by omega, by go_num, _, _, _, hkg.set p _ true (by omega) (by omega)⟩
          case measure => simp [intOf]; omega
      · have cr := Lib.hid (react_tup p s f ⟨#[103, 111, 111, 100]⟩ w8)
        rw [react_good p s f hlo hhi] at cr
        go_wp2_with fail
        refine cr.out.mono ?_
        rintro e w9 ⟨rfl, hb9⟩
        have hk9 := hk8.stays hb9
        clear hb9 hk8 c0 c1 c2 cr
        have c0 : w9.cell? ⟨pb, 0, none⟩ = some (.int .i64 p) := hk9.blk.cell 0
        have c1 : w9.cell? ⟨pb, 1, none⟩ = some (.bool s) := hk9.blk.cell 1
        have c2 : w9.cell? ⟨pb, 2, none⟩ = some (.bool f) := hk9.blk.cell 2
        have hlt9 := hk9.blk.lt
        have hn1 : ¬ w9.heap.size = pb := by omega
        have hn2 : ¬ pb = w9.heap.size := by omega
        go_upto_region 9 with fail
        obtain ⟨wg, g, hwg, hg⟩ : ∃ wg g, wg = w9.alloc (.cells #[.int .i64 0, .bool false, .bool false] 81) ∧ g = w9.heap.size := ⟨_, _, rfl, rfl⟩
        rw [← hwg, ← hg]
        have hg9 : Below w9.heap.size w9 wg := by rw [hwg]; go_grown
        have hkg : KB w tb pb l p s f wg := hk9.stays hg9
        have hbg : Blk wg g 81 #[.int .i64 0, .bool false, .bool false] := by rw [hwg, hg]; exact Blk.new _ _ _
        have hgp : ¬ g = pb := by omega
        have hpg : ¬ pb = g := by omega
        have hgw : w9.heap.size ≤ g := by omega
        have hgs := hg9.size
        clear hwg hg c0 c1 c2 hlt9 hn1 hn2
        have c0 : wg.cell? ⟨pb, 0, none⟩ = some (.int .i64 p) := hkg.blk.cell 0
        have c1 : wg.cell? ⟨pb, 1, none⟩ = some (.bool s) := hkg.blk.cell 1
        have c2 : wg.cell? ⟨pb, 2, none⟩ = some (.bool f) := hkg.blk.cell 2
        cases s
        · obtain ⟨p', hp⟩ : ∃ p', max (p - 1) 4 = p' := ⟨_, rfl⟩
          have hp1 : 4 ≤ p' := by omega
          have hp2 : p' ≤ 17 := by omega
          have hp3 : ¬ p' > p := by omega
          have hq4 : ¬ p' < 4 := by omega
          have hq17 : ¬ p' > 17 := by omega
          have cg := Lib.hid (good_tup p false f wg)
          rw [show good p false f = (p', false, false, 0) by rw [good, if_neg (by omega), if_neg (by decide), hp]] at cg
          clear hp
          go_wp2_with fail
          refine cg.out.mono ?_
          rintro e w10 ⟨rfl, hb10⟩
          have hy : Below w9.heap.size w9 w10 := below_via hg9 hb10 hgs
          have hkx := hkg.stays hb10
          have hbx := hbg.stays hb10
          have hkz : KB w tb pb l p false f (((w10.setCell ⟨g, 0, none⟩ (.int .i64 p')).setCell ⟨g, 1, none⟩ (.bool false)).setCell ⟨g, 2, none⟩ (.bool false)) :=
            hk9.stays (((hy.setCell (p := ⟨g, 0, none⟩) hgw _).setCell (p := ⟨g, 1, none⟩) hgw _).setCell (p := ⟨g, 2, none⟩) hgw _)
          clear c0 c1 c2 cg hb10 hy
          have c0 : w10.cell? ⟨pb, 0, none⟩ = some (.int .i64 p) := hkx.blk.cell 0
          have c1 : w10.cell? ⟨pb, 1, none⟩ = some (.bool false) := hkx.blk.cell 1
          have c2 : w10.cell? ⟨pb, 2, none⟩ = some (.bool f) := hkx.blk.cell 2
          have g0 : w10.cell? ⟨g, 0, none⟩ = some (.int .i64 0) := hbx.cell 0
          have g1 : w10.cell? ⟨g, 1, none⟩ = some (.bool false) := hbx.cell 1
          have g2 : w10.cell? ⟨g, 2, none⟩ = some (.bool false) := hbx.cell 2
          have f0 := hkx.blk.frozen 0
          have f1 := hkx.blk.frozen 1
          have f2 := hkx.blk.frozen 2
          have e0 := hbx.frozen 0
          have e1 := hbx.frozen 1
          have e2 := hbx.frozen 2
          go_wp2_with fail
          go_roundw
          case rel => exact ⟨j + 1, by omega, by go_num, _, _, _, hkz.set p' _ _ (by omega) (by omega)⟩
          case measure => simp [intOf]; omega
        · have cg := Lib.hid (good_tup p true f wg)
          rw [show good p true f = (0, false, false, 7) by rw [good, if_neg (by omega), if_pos rfl]] at cg
          go_wp2_with fail
          refine cg.out.mono ?_
          rintro e w10 ⟨rfl, hb10⟩
          have hy : Below w9.heap.size w9 w10 := below_via hg9 hb10 hgs
          have hkx := hkg.stays hb10
          have hbx := hbg.stays hb10
          have hkz : KB w tb pb l p true f (((w10.setCell ⟨g, 0, none⟩ (.int .i64 0)).setCell ⟨g, 1, none⟩ (.bool false)).setCell ⟨g, 2, none⟩ (.bool false)) :=
            hk9.stays (((hy.setCell (p := ⟨g, 0, none⟩) hgw _).setCell (p := ⟨g, 1, none⟩) hgw _).setCell (p := ⟨g, 2, none⟩) hgw _)
          clear c0 c1 c2 cg hb10 hy
          have c0 : w10.cell? ⟨pb, 0, none⟩ = some (.int .i64 p) := hkx.blk.cell 0
          have c1 : w10.cell? ⟨pb, 1, none⟩ = some (.bool true) := hkx.blk.cell 1
          have c2 : w10.cell? ⟨pb, 2, none⟩ = some (.bool f) := hkx.blk.cell 2
          have g0 : w10.cell? ⟨g, 0, none⟩ = some (.int .i64 0) := hbx.cell 0
          have g1 : w10.cell? ⟨g, 1, none⟩ = some (.bool false) := hbx.cell 1
          have g2 : w10.cell? ⟨g, 2, none⟩ = some (.bool false) := hbx.cell 2
          have e0 := hbx.frozen 0
          have e1 := hbx.frozen 1
          have e2 := hbx.frozen 2
          go_wp2_with fail
          go_roundw
          case rel => exact ⟨j + 1, by omega, by go_num, _, _, _, hkz⟩
          case measure => simp [intOf]; omega
      · have cr := Lib.hid (react_tup p s f ⟨#[68, 69, 78, 89]⟩ w8)
        rw [react_deny p s f hlo hhi] at cr
        go_wp2_with fail
        refine cr.out.mono ?_
        rintro e w9 ⟨rfl, hb9⟩
        have hk9 := hk8.stays hb9
        clear hb9 hk8 c0 c1 c2 cr
        have c0 : w9.cell? ⟨pb, 0, none⟩ = some (.int .i64 p) := hk9.blk.cell 0
        have c1 : w9.cell? ⟨pb, 1, none⟩ = some (.bool s) := hk9.blk.cell 1
        have c2 : w9.cell? ⟨pb, 2, none⟩ = some (.bool f) := hk9.blk.cell 2
        have hlt9 := hk9.blk.lt
        have hn1 : ¬ w9.heap.size = pb := by omega
        have hn2 : ¬ pb = w9.heap.size := by omega
        go_upto_region 13 with fail
        obtain ⟨wg, g, hwg, hg⟩ : ∃ wg g, wg = w9.alloc (.cells #[.int .i64 p, .bool true, .bool f] 81) ∧ g = w9.heap.size := ⟨_, _, rfl, rfl⟩
        rw [← hwg, ← hg]
        have hkg : KB w tb pb l p s f wg := hk9.stays (by rw [hwg]; go_grown)
        have hbg : Blk wg g 81 #[.int .i64 p, .bool true, .bool f] := by rw [hwg, hg]; exact Blk.new _ _ _
        have hgp : ¬ g = pb := by omega
        have hpg : ¬ pb = g := by omega
        clear hwg hg hk9 c0 c1 c2 hlt9 hn1 hn2
        have c0 : wg.cell? ⟨pb, 0, none⟩ = some (.int .i64 p) := hkg.blk.cell 0
        have c1 : wg.cell? ⟨pb, 1, none⟩ = some (.bool s) := hkg.blk.cell 1
        have c2 : wg.cell? ⟨pb, 2, none⟩ = some (.bool f) := hkg.blk.cell 2
        have g0 : wg.cell? ⟨g, 0, none⟩ = some (.int .i64 p) := hbg.cell 0
        have g1 : wg.cell? ⟨g, 1, none⟩ = some (.bool true) := hbg.cell 1
        have g2 : wg.cell? ⟨g, 2, none⟩ = some (.bool f) := hbg.cell 2
        have f0 := hkg.blk.frozen 0
        have f1 := hkg.blk.frozen 1
        have f2 := hkg.blk.frozen 2
        have hq4 : ¬ p < 4 := by omega
        have hq17 : ¬ p > 17 := by omega
        have hpp : ¬ p > p := by omega
        all_goals cases s
        all_goals
          go_wp2_with fail
          go_roundw
          case rel => exact ⟨j + 1, by omega, by go_num, _, _, _, hkg.set p _ f (by omega) (by omega)⟩
          case measure => simp [intOf]; omega
    · have hjj : ¬ (j : Int) < 20 := by omega
      have hb := hk.below
      have hs := hb.size
      clear hk
      go_wp2_with fail
      refine (kissKnown _).mono ?_
      rintro e w2 ⟨rfl, hb2⟩
      go_wp2
      go_ret
      exact ⟨rfl, below_via hb hb2 hs⟩
end Go.Proofs.Ytnpfndlmbaafaaa
