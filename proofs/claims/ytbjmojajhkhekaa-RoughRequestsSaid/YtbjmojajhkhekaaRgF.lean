/- rough.number, rough.places. -/
import Derived.Test.YtbjmojajhkhekaaRgM
import Derived.Test.YtbjmojajhkhekaaSl
import Derived.Test.YtbjmojajhkhekaaGet
namespace Go.Proofs.Ytbjmojajhkhekaa
open Go Go.RowKit

set_option maxRecDepth 100000 in
set_option maxHeartbeats 4000000 in
theorem number_any (A : Option Addr) (m c : Nat) (b : List UInt8) (i : Nat) (w : World) (hb : Bytes w A m c b) (hi : 4 * i + 4 ≤ m) (hm : m ≤ 100000) :
    Calls Try.prog 65 #[.slice A m c, .int .i64 i] w fun e w' => e = .returned (.int .i64 (numT b i)) ∧ w = w' := by
  have hle := hb.le
  have hcap := hb.cap
  obtain ⟨q, hq⟩ : ∃ q, 4 * i = q := ⟨_, rfl⟩
  have hqi : (4 : Int) * (i : Int) = (q : Int) := by omega
  have VC := Lib.hid (hb.cutS q (q + 4) (by omega) (by omega) (d := 4) (k := c - q) (by omega) rfl)
  have HN := Lib.hid (show be64 ((b.drop q).take 4) 4 = numT b i by rw [← hq]; rfl)
  have hlt := numT_lt b i
  have s1 := run_cut und_bytes size_byte (A := A) (n := m) (c := c) (q : Int) ((q : Int) + 4) q (q + 4) 4 (c - q) rfl (by omega) (by omega) (by omega) (by omega) rfl
  obtain ⟨N, hN⟩ : ∃ N, numT b i = N := ⟨_, rfl⟩
  rw [hN] at HN hlt ⊢
  clear hb hq hN
  go_enter Try.func65, Try.ntmps65
  go_wp2_with fail
  refine (get_any _ _ _ _ _ VC.out).mono ?_
  rintro e q_ ⟨rfl, rfl⟩
  rw [HN.out]
  go_wp2
  go_ret
  exact ⟨rfl, rfl⟩
/-- A row of the call's own with numbers. -/
def IntsO (w : World) (B : Nat) (A : Option Addr) (n c : Nat) (l : List Nat) : Prop := w.ownsRow B 3 1 (.slice A n c) n (l.map fun (x : Nat) => Value.int .i64 (x : Int))
def IntsR (w : World) (A : Option Addr) (n c : Nat) (l : List Nat) : Prop := Rd w 1 A n c (l.map fun (x : Nat) => Value.int .i64 (x : Int))
theorem IntsO.rd {w : World} {B n c : Nat} {A : Option Addr} {l : List Nat} (h : IntsO w B A n c l) : IntsR w A n c l := own_rd h
theorem IntsR.stays {w w' : World} {A : Option Addr} {n c : Nat} {l : List Nat} (h : IntsR w A n c l) (hb : Below w.heap.size w w') : IntsR w' A n c l := Rd.stays h hb
theorem IntsR.at_ {w : World} {A : Option Addr} {n c k x : Nat} {l : List Nat} (h : IntsR w A n c l) (hx : l[k]? = some x) : ∃ b o : Nat, A = some ⟨b, o, none⟩ ∧ w.cell? ⟨b, o + k, none⟩ = some (.int .i64 (x : Int)) := by
  have e : (l.map fun (x : Nat) => Value.int .i64 (x : Int))[k]? = some (.int .i64 (x : Int)) := by rw [List.getElem?_map, hx]; rfl
  obtain ⟨b, o, ha, hc⟩ := h.2.2.2 k _ e
  exact ⟨b, o, ha, hc⟩
theorem tmod_z {S : Nat} (h : ((S : Int) % 4 == 0) = true) : S % 4 = 0 := by
  have : (S : Int) % 4 = 0 := by simpa using h
  omega
theorem infoInt28 : (Try.prog.info? 3).map (fun i => (i.zero, i.size, i.bytes)) = some (some (.int .i64 0), 1, 8) := by kernel_rfl
theorem run_append_int {w : World} {A : Option Addr} {n c B g x : Nat} {l : List Nat} (hown : IntsO w B A n c l) (hB : Blk w g 3 #[.int .i64 (x : Int)]) (hn : n ≤ 1000) (hz : B ≤ w.heap.size) (ty : TypeId) :
    ∃ v w', (Builtin.append_ #[23, 23] ty #[.slice A n c, .slice (some ⟨g, 0, none⟩) 1 1]).run Try.prog w = .ok v w' ∧ ∃ A' c', v = .slice A' (n + 1) c' ∧ IntsO w' B A' (n + 1) c' (l ++ [x]) ∧ Below B w w' := by
  obtain ⟨i0, hi, hz0, hz1, hz2⟩ := info_parts infoInt28
  have hr : Rd w 1 (some ⟨g, 0, none⟩) 1 1 [.int .i64 (x : Int)] := ⟨rfl, Nat.le_refl _, by decide, fun i u hu => ⟨g, 0, rfl, by rw [Nat.zero_add, hB.cell i]; simpa using hu⟩⟩
  obtain ⟨A', c', w', hrun, h2, h3, h4⟩ := run_append_rd (P := Try.prog) 23 ty i0 _ 8 Try.underlying23 hi hz0 hz1 hz2 rfl (by decide) hown hr (by intro u hu; simp at hu; subst hu; rfl) (by unfold maxLen; omega) (by omega) hz
  exact ⟨_, w', hrun, A', c', rfl, by unfold IntsO; rw [List.map_append]; exact h2, (Below.refl B w).grown h3 hz (fun k hk => (World.ownsRow.lt hown k hk).1)⟩
def plsB (b : List UInt8) (k : Nat) : List Nat := (List.range k).map (plB b)
theorem plsB_next (b : List UInt8) (k : Nat) (h : 1 ≤ k) : plsB b (k + 1) = plsB b k ++ [numT b k] := by
  rw [plsB, List.range_succ, List.map_append]; simp [plsB, plB]; omega
theorem plsB_at (b : List UInt8) {k i : Nat} (h : i < k) : (plsB b k)[i]? = some (plB b i) := by simp [plsB, h]
/-- All places, and the end. -/
def allB (b : List UInt8) (n S : Nat) : List Nat := plsB b n ++ [S]
theorem allB_at (b : List UInt8) {n S i : Nat} (h : i ≤ n) : (allB b n S)[i]? = some (atB b n S i) := by
  unfold allB atB
  by_cases e : i < n
  · rw [List.getElem?_append_left (by simpa [plsB] using e), if_pos e, plsB_at b e]
  · obtain rfl : i = n := by omega
    rw [List.getElem?_append_right (by simp [plsB]), if_neg e]; simp [plsB]
set_option maxRecDepth 100000 in
set_option maxHeartbeats 4000000 in
theorem places_any28 (A : Option Addr) (m c n S : Nat) (b : List UInt8) (w : World) (hb : Bytes w A m c b) (hn1 : 1 ≤ n) (hn : n ≤ 16) (hm : m ≤ 100000) (h8 : 4 * n ≤ m) (hS : S ≤ 100000) :
    Calls Try.prog 66 #[.slice A m c, .int .i64 n, .int .i64 S] w fun e w' => ∃ A' m' c' ok, e = .returned (.tuple #[.slice A' m' c', .bool ok]) ∧ (ok = true ↔ okP b S n ∧ S % 4 = 0) ∧ (ok = true → m' = n + 1 ∧ IntsR w' A' m' c' (allB b n S)) ∧ Below w.heap.size w w' := by
  have hle := hb.le
  have hcap := hb.cap
  have HB := Lib.hid hb
  clear hb
  go_enter Try.func66, Try.ntmps66
  have hown : IntsO (w.alloc (.cells #[.int .i64 0] 3)) w.heap.size (some ⟨w.heap.size, 0, none⟩) 1 1 (plsB b 1) := World.ownsRow_lit (base := w.heap.size) (e := 3) (size := 1) w #[.int .i64 0] 1 (Nat.le_refl _) (by decide) rfl
  have HO := Lib.hid hown
  clear hown
  go_wp2_with fail
  go_loopw [8, 9] (fun so i wr => ∃ (k co : Nat) (AO : Option Addr), 1 ≤ k ∧ k ≤ n ∧ i = .int .i64 k ∧ so = .slice AO k co ∧ Hid (okP b S k) ∧ Hid (IntsO wr w.heap.size AO k co (plsB b k)) ∧ Below w.heap.size w wr) (fun _ i _ => n - (intOf i).toNat)
  case atStart => exact ⟨1, 1, _, Nat.le_refl _, hn1, rfl, rfl, okP.one b S, HO.out, by go_grown⟩
  case round =>
    clear HO
    obtain ⟨k, co, AO, hk1, hk, rfl, rfl, HP, HO, hbr⟩ := hrel
    have RW := Lib.hid hbr
    have hz_wr := hbr.size
    have o1 := (own_rd HO.out).2.1
    have o2 : co ≤ 9223372036854775807 := by have := (own_rd HO.out).2.2.1; unfold maxLen at this; exact this
    by_cases hkn : k < n
    ·
      have hki : (k : Int) < (n : Int) := by omega
      have hP32 := numT_lt b k
      have HNX := Lib.hid (plsB_next b k hk1)
      have HPN := Lib.hid (fun h1 h2 h3 => okP.next (b := b) (S := S) (k := k) HP.out h1 h2 h3)
      have HPX := Lib.hid (fun h => okP.not (b := b) (S := S) (k := k) (n := n) hkn hk1 h)
      obtain ⟨j, hj⟩ : ∃ j, k = j + 1 := ⟨k - 1, by omega⟩
      have hji : (k : Int) - 1 = (j : Int) := by omega
      have hjw : IntKind.i64.wrap (j : Int) = (j : Int) := IntWalk.i64_in _ (by omega)
      have hjk : (j : Int) < (k : Int) := by omega
      obtain ⟨g, o, hA, hcj⟩ := HO.out.rd.at_ (plsB_at b (show j < k by omega))
      subst hA
      rw [show k - 1 = j by omega] at HPN HPX
      clear hj
      go_wp2_with fail
      refine (number_any _ _ _ b k _ (HB.out.stays RW.out) (by omega) (by omega)).mono ?_
      rintro e q_ ⟨rfl, rfl⟩
      obtain ⟨p, hp⟩ : ∃ p, numT b k = p := ⟨_, rfl⟩
      obtain ⟨pr, hpr⟩ : ∃ pr, plB b j = pr := ⟨_, rfl⟩
      rw [hp] at hP32 HNX HPN HPX ⊢
      rw [hpr] at HPN HPX hcj
      have ht4 : Int.tmod (p : Int) 4 = ((p % 4 : Nat) : Int) := by rw [Int.tmod_eq_emod_of_nonneg (by omega)]; omega
      obtain ⟨m4, hm4⟩ : ∃ m4, p % 4 = m4 := ⟨_, rfl⟩
      rw [hm4] at ht4 HPN HPX
      clear hm4 hp hpr hbr
      by_cases hm0 : m4 = 0
      case neg =>
        have hm0b : (((m4 : Nat) : Int) != 0) = true := by simpa [bne] using hm0
        have HX : Hid (¬ okP b S n) := HPX.out (fun q => hm0 q.1)
        go_wp2
        go_returns
        exact ⟨none, 0, 0, false, rfl, ⟨(fun h => by cases h), (fun h => absurd h.1 HX.out)⟩, (fun h => by cases h), RW.out⟩
      by_cases hpl : p < pr
      ·
        have e1 : (p : Int) < (pr : Int) := by omega
        have hm0b : (((m4 : Nat) : Int) != 0) = false := by simp [bne, hm0]
        have HX : Hid (¬ okP b S n) := HPX.out (fun q => by have := q.2.1; omega)
        go_wp2
        go_returns
        exact ⟨none, 0, 0, false, rfl, ⟨(fun h => by cases h), (fun h => absurd h.1 HX.out)⟩, (fun h => by cases h), RW.out⟩
      have e1 : ¬ (p : Int) < (pr : Int) := by omega
      by_cases hps : S < p
      ·
        have e2 : (S : Int) < (p : Int) := by omega
        have hm0b : (((m4 : Nat) : Int) != 0) = false := by simp [bne, hm0]
        have HX : Hid (¬ okP b S n) := HPX.out (fun q => by have := q.2.2; omega)
        go_wp2
        go_returns
        exact ⟨none, 0, 0, false, rfl, ⟨(fun h => by cases h), (fun h => absurd h.1 HX.out)⟩, (fun h => by cases h), RW.out⟩
      have e2 : ¬ (S : Int) < (p : Int) := by omega
      have HP2 := Lib.hid (HPN.out hm0 (by omega) (by omega))
      subst hm0
      go_wp2_with (at_builtin; refine wpList_append_h (vs := .slice (some ⟨g, o, none⟩) k co) (vx := .slice (some ⟨_, 0, none⟩) 1 1) rfl _ _ 23 23 rfl rfl rfl (R := fun v w' => ∃ A' c', v = .slice A' (k + 1) c' ∧ IntsO w' w.heap.size A' (k + 1) c' (plsB b k ++ [p]) ∧ Below w.heap.size _ w') (run_append_int (own_alloc HO.out _) (Blk.new _ _ _) (by omega) (by simp; omega) _) ?_; rintro v w8 ⟨A8, c8, rfl, hO, hb8⟩; have HO8 := Lib.hid hO; have R8 := Lib.hid ((RW.out.alloc hz_wr _).trans hb8); clear hO hb8)
      go_wp2
      go_roundw
      case rel => exact ⟨k + 1, c8, A8, by omega, by omega, by go_num, rfl, HP2, by rw [Hid, HNX.out]; exact HO8.out, R8.out⟩
      case measure => simp [intOf]; omega
    obtain rfl : k = n := by omega
    go_wp2_with (at_builtin; refine wpList_append_h (vs := .slice AO k co) (vx := .slice (some ⟨_, 0, none⟩) 1 1) rfl _ _ 23 23 rfl rfl rfl (R := fun v w' => ∃ A' c', v = .slice A' (k + 1) c' ∧ IntsO w' w.heap.size A' (k + 1) c' (plsB b k ++ [S]) ∧ Below w.heap.size _ w') (run_append_int (own_alloc HO.out _) (Blk.new _ _ _) (by omega) (by simp; omega) _) ?_; rintro v w8 ⟨A8, c8, rfl, hO, hb8⟩; have HO8 := Lib.hid hO; have R8 := Lib.hid ((RW.out.alloc hz_wr _).trans hb8); clear hO hb8)
    clear hbr hkn
    go_wp2
    go_returns
    exact ⟨A8, k + 1, c8, _, rfl, ⟨(fun h => ⟨HP.out, tmod_z h⟩), (fun h => by have := h.2; simp; omega)⟩, (fun _ => ⟨rfl, HO8.out.rd⟩), R8.out⟩
end Go.Proofs.Ytbjmojajhkhekaa
