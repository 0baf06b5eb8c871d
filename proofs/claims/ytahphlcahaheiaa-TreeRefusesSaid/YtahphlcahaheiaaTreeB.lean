/- Trees: half, split, divide. -/
import Derived.Test.YtahphlcahaheiaaTreeL
import Derived.Test.YtahphlcahaheiaaItems
import Derived.Test.YtahphlcahaheiaaSl
import Derived.Test.YtahphlcahaheiaaReg
namespace Go.Proofs.Ytahphlcahaheiaa
open Go.RowKit

set_option maxRecDepth 100000 in
theorem tab_at (x : Nat) (h0 : 0 < x) (h : x < 256) (h' : x < (⟨#[0,1,2,2,3,3,3,3,4,4,4,4,4,4,4,4,5,5,5,5,5,5,5,5,5,5,5,5,5,5,5,5,6,6,6,6,6,6,6,6,6,6,6,6,6,6,6,6,6,6,6,6,6,6,6,6,6,6,6,6,6,6,6,6,7,7,7,7,7,7,7,7,7,7,7,7,7,7,7,7,7,7,7,7,7,7,7,7,7,7,7,7,7,7,7,7,7,7,7,7,7,7,7,7,7,7,7,7,7,7,7,7,7,7,7,7,7,7,7,7,7,7,7,7,7,7,7,7,8,8,8,8,8,8,8,8,8,8,8,8,8,8,8,8,8,8,8,8,8,8,8,8,8,8,8,8,8,8,8,8,8,8,8,8,8,8,8,8,8,8,8,8,8,8,8,8,8,8,8,8,8,8,8,8,8,8,8,8,8,8,8,8,8,8,8,8,8,8,8,8,8,8,8,8,8,8,8,8,8,8,8,8,8,8,8,8,8,8,8,8,8,8,8,8,8,8,8,8,8,8,8,8,8,8,8,8,8,8,8,8,8,8,8,8,8,8,8,8,8,8,8,8,8,8,8,8]⟩ : ByteArray).size) : ((⟨#[0,1,2,2,3,3,3,3,4,4,4,4,4,4,4,4,5,5,5,5,5,5,5,5,5,5,5,5,5,5,5,5,6,6,6,6,6,6,6,6,6,6,6,6,6,6,6,6,6,6,6,6,6,6,6,6,6,6,6,6,6,6,6,6,7,7,7,7,7,7,7,7,7,7,7,7,7,7,7,7,7,7,7,7,7,7,7,7,7,7,7,7,7,7,7,7,7,7,7,7,7,7,7,7,7,7,7,7,7,7,7,7,7,7,7,7,7,7,7,7,7,7,7,7,7,7,7,7,8,8,8,8,8,8,8,8,8,8,8,8,8,8,8,8,8,8,8,8,8,8,8,8,8,8,8,8,8,8,8,8,8,8,8,8,8,8,8,8,8,8,8,8,8,8,8,8,8,8,8,8,8,8,8,8,8,8,8,8,8,8,8,8,8,8,8,8,8,8,8,8,8,8,8,8,8,8,8,8,8,8,8,8,8,8,8,8,8,8,8,8,8,8,8,8,8,8,8,8,8,8,8,8,8,8,8,8,8,8,8,8,8,8,8,8,8,8,8,8,8,8,8,8,8,8,8,8]⟩ : ByteArray)[x]'h').toNat = x.log2 + 1 := by
  have key : ∀ m : Fin 256, 0 < m.1 → ((⟨#[0,1,2,2,3,3,3,3,4,4,4,4,4,4,4,4,5,5,5,5,5,5,5,5,5,5,5,5,5,5,5,5,6,6,6,6,6,6,6,6,6,6,6,6,6,6,6,6,6,6,6,6,6,6,6,6,6,6,6,6,6,6,6,6,7,7,7,7,7,7,7,7,7,7,7,7,7,7,7,7,7,7,7,7,7,7,7,7,7,7,7,7,7,7,7,7,7,7,7,7,7,7,7,7,7,7,7,7,7,7,7,7,7,7,7,7,7,7,7,7,7,7,7,7,7,7,7,7,8,8,8,8,8,8,8,8,8,8,8,8,8,8,8,8,8,8,8,8,8,8,8,8,8,8,8,8,8,8,8,8,8,8,8,8,8,8,8,8,8,8,8,8,8,8,8,8,8,8,8,8,8,8,8,8,8,8,8,8,8,8,8,8,8,8,8,8,8,8,8,8,8,8,8,8,8,8,8,8,8,8,8,8,8,8,8,8,8,8,8,8,8,8,8,8,8,8,8,8,8,8,8,8,8,8,8,8,8,8,8,8,8,8,8,8,8,8,8,8,8,8,8,8,8,8,8,8]⟩ : ByteArray)[m.1]'(m.2)).toNat = m.1.log2 + 1 := by decide +kernel
  exact key ⟨x, h⟩ h0
theorem log_shift : ∀ x < 1024, 256 ≤ x → x.log2 = (x / 256).log2 + 8 := by decide +kernel
theorem log_lt : ∀ x < 1024, x.log2 < 10 := by decide +kernel
set_option maxRecDepth 100000 in
set_option maxHeartbeats 4000000 in
theorem len64_any (x : Nat) (w : World) (h0 : 0 < x) (h : x < 1024) : Calls Try.prog 105 #[.int .u64 x] w fun e w' => e = .returned (.int .i64 ((x.log2 + 1 : Nat) : Int)) ∧ w = w' := by
  have g1 : ¬ (x : Int) ≥ 4294967296 := by omega
  have g2 : ¬ (x : Int) ≥ 65536 := by omega
  by_cases h8 : x < 256
  · have g3 : ¬ (x : Int) ≥ 256 := by omega
    go_enter Try.func105, Try.ntmps105
    go_wp2
    go_ret
    refine ⟨?_, rfl⟩
    have hl := log_lt x h
    have ht := tab_at x h0 h8 h8
    simp [ht, wrap64]
    omega
  · have g3 : (x : Int) ≥ 256 := by omega
    obtain ⟨y, hy⟩ : ∃ y, x / 256 = y := ⟨_, rfl⟩
    have hy2 : (x : Int) / 256 = (y : Int) := by omega
    have hs := log_shift x h (by omega)
    rw [hy] at hs
    have HS := Lib.hid hs
    have hy3 : y < 256 := by omega
    have hy4 : 0 < y := by omega
    clear hs hy
    have hl := log_lt x h
    obtain ⟨L, hL⟩ : ∃ L, y.log2 + 1 = L := ⟨_, rfl⟩
    have hL2 : L ≤ 12 := by have := HS.out; omega
    have ht := fun h' => tab_at y hy4 hy3 h'
    rw [hL] at ht
    have HL := Lib.hid hL
    clear hL hl
    go_enter Try.func105, Try.ntmps105
    go_wp2
    go_ret
    refine ⟨?_, rfl⟩
    have hs := HS.out
    have hL := HL.out
    simp
    omega
set_option maxRecDepth 100000 in
set_option maxHeartbeats 4000000 in
theorem split_any (n : Nat) (w : World) (h2 : 2 ≤ n) (hn : n ≤ 100000) : Calls Try.prog 93 #[.int .i64 n] w fun e w' => e = .returned (.int .i64 (halfN n)) ∧ w = w' := by
  go_enter Try.func93, Try.ntmps93
  go_wp2
  go_loop [3] (fun k => ∃ (q a : Nat), k = .int .i64 q ∧ Hid (q = 2 ^ a) ∧ q < n) (fun k => n - (intOf k).toNat)
  case atStart => exact ⟨1, 0, rfl, rfl, by omega⟩
  case round =>
    obtain ⟨q, a, rfl, hq, hqn⟩ := hrel
    have hq0 : 0 < q := by rw [hq.out]; exact Nat.two_pow_pos a
    by_cases h : 2 * q < n
    · have hi : 2 * (q : Int) < (n : Int) := by omega
      go_wp2
      go_round
      case rel => exact ⟨2 * q, a + 1, by go_num, by have := hq.out; unfold Hid; rw [Nat.pow_succ]; omega, h⟩
      case measure => simp [intOf]; omega
    · have hi : ¬ 2 * (q : Int) < (n : Int) := by omega
      have HE := Lib.hid (half_only (n := n) hq.out hqn (by omega))
      go_wp2
      go_ret
      exact ⟨by rw [HE.out]; rfl, rfl⟩
set_option maxRecDepth 100000 in
set_option maxHeartbeats 4000000 in
theorem len_any (x K : Nat) (w : World) (h0 : 0 < x) (h : x < 1024) (hK : x.log2 = K) : Calls Try.prog 101 #[.int .u64 x] w fun e w' => e = .returned (.int .i64 ((K : Int) + 1)) ∧ w = w' := by
  subst hK
  go_enter Try.func101, Try.ntmps101
  go_wp2_with fail
  refine (len64_any x _ h0 h).mono ?_
  rintro e w1 ⟨rfl, rfl⟩
  go_wp2
  go_ret
  exact ⟨rfl, rfl⟩
set_option maxRecDepth 100000 in
set_option maxHeartbeats 4000000 in
theorem half_any (n : Nat) (w : World) (h2 : 2 ≤ n) (hn : n ≤ 1024) : Calls Try.prog 95 #[.int .i64 n] w fun e w' => e = .returned (.int .i64 (halfN n)) ∧ w' = w := by
  obtain ⟨m, rfl⟩ : ∃ m, n = m + 1 := ⟨n - 1, by omega⟩
  have hm : ((m + 1 : Nat) : Int) - 1 = (m : Int) := by omega
  have hw : IntKind.u64.wrap (m : Int) = (m : Int) := IntWalk.u64_in _ (by omega)
  obtain ⟨K, hK⟩ : ∃ K, m.log2 = K := ⟨_, rfl⟩
  have hK2 : K < 10 := by rw [← hK]; exact log_lt m (by omega)
  have HH : Hid (halfN (m + 1) = 2 ^ K) := by unfold Hid halfN; rw [Nat.add_sub_cancel, hK]
  have HK := Lib.hid hK
  clear hK
  go_enter Try.func95, Try.ntmps95
  go_wp2_with fail
  refine (len_any m K _ (by omega) (by omega) HK.out).mono ?_
  rintro e w1 ⟨rfl, rfl⟩
  clear hm hw
  obtain rfl | rfl | rfl | rfl | rfl | rfl | rfl | rfl | rfl | rfl : K = 0 ∨ K = 1 ∨ K = 2 ∨ K = 3 ∨ K = 4 ∨ K = 5 ∨ K = 6 ∨ K = 7 ∨ K = 8 ∨ K = 9 := by omega
  all_goals
    go_wp2
    go_ret
    exact ⟨by rw [HH.out]; rfl, rfl⟩
theorem Lists.cutS {w : World} {A : Option Addr} {n c : Nat} {ls : List (List UInt8)} (h : Lists w A n c ls) (lo hi : Nat) (h1 : lo ≤ hi) (h2 : hi ≤ n) {d k : Nat} (hd : hi - lo = d) (hk : c - lo = k) : Lists w (cutA A c lo) d k ((ls.drop lo).take d) := by
  subst hd hk
  have hln := h.len
  obtain ⟨vs, h3, h4, h5⟩ := h
  have hc := Rd.cut h3 lo hi h1 h2
  rw [Nat.mul_one, Nat.mul_one] at hc
  refine ⟨_, hc, by simp [h4], fun i l hl => ?_⟩
  rw [List.getElem?_take] at hl
  split at hl
  · rename_i hlt
    rw [List.getElem?_drop] at hl
    obtain ⟨A', n', c', e, hy⟩ := h5 _ l hl
    exact ⟨A', n', c', by rw [List.getElem?_take, if_pos hlt, List.getElem?_drop]; exact e, hy⟩
  · cases hl
theorem Lists.cutTo {w : World} {A : Option Addr} {n c : Nat} {ls : List (List UInt8)} (h : Lists w A n c ls) (m : Nat) (hm : m ≤ n) : Lists w A m c (ls.take m) := by
  have hln := h.len
  obtain ⟨vs, h3, h4, h5⟩ := h
  refine ⟨vs.take m, ⟨by have := h3.1; simp; omega, Nat.le_trans hm h3.2.1, h3.2.2.1, fun i u hu => ?_⟩, by simp [h4], fun i l hl => ?_⟩
  · rw [List.getElem?_take] at hu
    split at hu
    · exact h3.2.2.2 i u hu
    · cases hu
  · rw [List.getElem?_take] at hl
    split at hl
    · rename_i hlt
      obtain ⟨A', n', c', e, hy⟩ := h5 _ l hl
      exact ⟨A', n', c', by rw [List.getElem?_take, if_pos hlt]; exact e, hy⟩
    · cases hl
theorem Lists.cutFrom {w : World} {A : Option Addr} {n c : Nat} {ls : List (List UInt8)} (h : Lists w A n c ls) (lo : Nat) (h1 : lo ≤ n) {d k : Nat} (hd : n - lo = d) (hk : c - lo = k) : Lists w (cutA A c lo) d k (ls.drop lo) := by
  have := h.cutS lo n h1 (Nat.le_refl _) hd hk
  rwa [List.take_of_length_le (by rw [List.length_drop, h.len]; omega)] at this
theorem und_hashes : Try.prog.underlying 66 = some (.slice (Try.prog.elem 66)) := by kernel_rfl
theorem size_hash (w : World) : (sizeOf (Try.prog.elem 66)).run Try.prog w = .ok 1 w := by kernel_rfl
theorem und_lists : Try.prog.underlying 33 = some (.slice (Try.prog.elem 33)) := by kernel_rfl
theorem size_list (w : World) : (sizeOf (Try.prog.elem 33)).run Try.prog w = .ok 1 w := by kernel_rfl
set_option maxRecDepth 100000 in
set_option maxHeartbeats 4000000 in
theorem divide_any (A : Option Addr) (n c : Nat) (w : World) (h2 : 2 ≤ n) (hn : n ≤ 1024) (hc : n ≤ c) (hm : c ≤ 9223372036854775807) : Calls Try.prog 85 #[.slice A n c] w fun e w' => e = .returned (.tuple #[.slice A (halfN n) c, .slice (cutA A c (halfN n)) (n - halfN n) (c - halfN n)]) ∧ Below w.heap.size w w' := by
  have hl := half_lt h2
  obtain ⟨k, hk⟩ : ∃ k, halfN n = k := ⟨_, rfl⟩
  have HK := Lib.hid hk
  rw [hk] at hl ⊢
  clear hk
  have s1 := run_cutFrom und_hashes size_hash (A := A) (n := n) (c := c) (k : Int) k (n - k) (c - k) rfl (by omega) rfl rfl
  have kc : (k : Int) ≤ (c : Int) := by omega
  go_enter Try.func85, Try.ntmps85
  go_wp2_with fail
  refine (half_any n _ h2 hn).mono ?_
  rintro e w1 ⟨rfl, rfl⟩
  rw [HK.out]
  go_wp2_with fail
  refine region_still (by kernel_rfl) (by kernel_rfl) ?_
  repeat ((with_reducible refine wpStill_step (fun K hK => ?_)); go_simp; (with_reducible refine hK _ ?_); clear hK K)
  refine wpStill_nil ?_
  go_wp2
  go_returns
  exact ⟨rfl, by go_grown⟩
end Go.Proofs.Ytahphlcahaheiaa
