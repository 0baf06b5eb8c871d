/- The memory of a server (a slice of api.Echo), and interleave.with. -/
import Derived.Test.YtfkckokaclkjnaaApp
import Derived.Test.YtfkckokaclkjnaaBlks
import Derived.Test.YtfkckokaclkjnaaStores
import Derived.Deep.DeepCutAuto
namespace Go.Proofs.Ytfkckokaclkjnaa
open Go.RowKit

def echC : List (Nat × Nat) → List Value
  | [] => []
  | x :: l => .int .u64 x.1 :: .int .u64 x.2 :: echC l
theorem echC_length : ∀ l, (echC l).length = l.length * 2
  | [] => rfl
  | x :: l => by simp [echC, echC_length l]; omega
theorem echC_append : ∀ a b, echC (a ++ b) = echC a ++ echC b
  | [], b => rfl
  | x :: a, b => by simp [echC, echC_append a b]
theorem echC_take : ∀ (l : List (Nat × Nat)) (k : Nat), echC (l.take k) = (echC l).take (k * 2)
  | [], k => by simp [echC]
  | x :: l, 0 => by simp [echC]
  | x :: l, k + 1 => by rw [List.take_succ_cons, echC, echC, echC_take l k, show (k + 1) * 2 = k * 2 + 1 + 1 by omega, List.take_succ_cons, List.take_succ_cons]
def rcvAt (l : List (Nat × Nat)) (i : Nat) : Nat := (l.getD i (0, 0)).1
def trmAt (l : List (Nat × Nat)) (i : Nat) : Nat := (l.getD i (0, 0)).2
theorem echC_at : ∀ (l : List (Nat × Nat)) (i : Nat), i < l.length → (echC l)[i * 2]? = some (.int .u64 (rcvAt l i)) ∧ (echC l)[i * 2 + 1]? = some (.int .u64 (trmAt l i))
  | [], i, h => by simp at h
  | x :: l, 0, _ => by simp [echC, rcvAt, trmAt]
  | x :: l, i + 1, h => by
    have := echC_at l i (by simpa using h)
    rw [show (i + 1) * 2 = i * 2 + 1 + 1 by omega]
    simpa [echC, rcvAt, trmAt] using this
theorem echC_one : ∀ (l : List (Nat × Nat)), ∀ u ∈ echC l, u.oneCell' = true
  | [], u, h => by simp [echC] at h
  | x :: l, u, h => by
    simp only [echC, List.mem_cons] at h
    rcases h with rfl | rfl | h
    · rfl
    · rfl
    · exact echC_one l u h
/-- '.slice A n c' holds the memory l. -/
def Echs (w : World) (A : Option Addr) (n c : Nat) (l : List (Nat × Nat)) : Prop := Rd w 2 A n c (echC l)
section
variable {w w' : World} {A : Option Addr} {n c : Nat} {l : List (Nat × Nat)}
theorem Echs.stays (h : Echs w A n c l) (hb : Below w.heap.size w w') : Echs w' A n c l := Rd.stays h hb
theorem Echs.len (h : Echs w A n c l) : l.length = n := by have := h.1; rw [echC_length] at this; omega
theorem Echs.le (h : Echs w A n c l) : n ≤ c := h.2.1
theorem Echs.cap (h : Echs w A n c l) : c ≤ 9223372036854775807 := by have := h.2.2.1; unfold maxLen at this; omega
theorem Echs.at_ (h : Echs w A n c l) {i : Nat} (hi : i < n) : ∃ b off, A = some ⟨b, off, none⟩ ∧ w.cell? ⟨b, off + i * 2, none⟩ = some (.int .u64 (rcvAt l i)) ∧ w.cell? ⟨b, off + i * 2 + 1, none⟩ = some (.int .u64 (trmAt l i)) := by
  obtain ⟨e0, e1⟩ := echC_at l i (by rw [h.len]; exact hi)
  obtain ⟨b, off, ha, hc⟩ := h.2.2.2 _ _ e0
  obtain ⟨b', off', ha', hc'⟩ := h.2.2.2 _ _ e1
  rw [ha] at ha'
  simp only [Option.some.injEq, Addr.mk.injEq, and_true] at ha'
  obtain ⟨rfl, rfl⟩ := ha'
  exact ⟨b, off, ha, hc, hc'⟩
theorem Echs.nil (w : World) : Echs w none 0 0 [] := Rd.nil _ _ _ (by decide) _
end
/-- The first place from j on of an answer to a question that was received at r, or -1. -/
def findFrom (l : List (Nat × Nat)) (r : Nat) : Nat → Nat → Int
  | 0, _ => -1
  | k + 1, j => if rcvAt l j = r then (j : Int) else findFrom l r k (j + 1)
def findE (l : List (Nat × Nat)) (r : Nat) : Int := findFrom l r l.length 0
theorem findFrom_yes {l : List (Nat × Nat)} {r j k : Nat} (hk : 0 < k) (h : rcvAt l j = r) : findFrom l r k j = j := by
  cases k with
  | zero => omega
  | succ k => simp [findFrom, h]
theorem findFrom_no {l : List (Nat × Nat)} {r j k : Nat} (h : ¬ rcvAt l j = r) : findFrom l r (k + 1) j = findFrom l r k (j + 1) := by simp [findFrom, h]

set_option maxHeartbeats 1000000 in
theorem withC_any (a b r xb : Nat) (w : World) (hx : Blk w xb 25 #[.int .u64 r]) :
    Calls Try.prog 26 #[.agg #[.int .u64 a, .int .u64 b], .pointer (some ⟨xb, 0, none⟩)] w fun e w' => e = .returned (.bool ((a : Int) == (r : Int))) ∧ Below w.heap.size w w' := by
  have k0 : w.cell? ⟨xb, 0, none⟩ = some (.int .u64 r) := hx.cell 0
  have hlt := hx.lt
  have hn1 : ¬ xb = w.heap.size := by omega
  have hn2 : ¬ w.heap.size = xb := by omega
  clear hx
  go_enter Try.func26, Try.ntmps26
  go_wp2
  go_ret
  exact ⟨rfl, by go_grown⟩
set_option maxHeartbeats 4000000 in
theorem indexFunc_any (A : Option Addr) (n c : Nat) (l : List (Nat × Nat)) (r xb : Nat) (w : World) (hv : Echs w A n c l) (hx : Blk w xb 25 #[.int .u64 r]) :
    Calls Try.prog 25 #[.slice A n c, .func (.func 26) #[] #[.pointer (some ⟨xb, 0, none⟩)]] w fun e w' => e = .returned (.int .i64 (findE l r)) ∧ Below w.heap.size w w' := by
  have q1 := hv.le
  have q2 := hv.cap
  have HL := Lib.hid hv.len
  have HV := Lib.hid hv
  have HX := Lib.hid hx
  clear hv hx
  go_enter Try.func25, Try.ntmps25
  go_wp2
  go_loopw [5, 8] (fun _ i wr => ∃ j : Nat, j ≤ n ∧ i = .int .i64 j ∧ Hid (findFrom l r (n - j) j = findE l r) ∧ Below w.heap.size w wr) (fun _ i _ => n - (intOf i).toNat)
  case atStart => exact ⟨0, Nat.zero_le _, rfl, by unfold Hid findE; rw [HL.out, Nat.sub_zero], Below.refl _ _⟩
  case round =>
    obtain ⟨j, hj, rfl, hf, hbr⟩ := hrel
    have hsr := hbr.size
    by_cases hjn : j < n
    · obtain ⟨b, off, rfl, h0, h1⟩ := (HV.out.stays hbr).at_ hjn
      have hji : (j : Int) < (n : Int) := by omega
      by_cases he : rcvAt l j = r
      · have hbq : ((rcvAt l j : Int) == (r : Int)) = true := by simp; omega
        have HE : Hid (findE l r = (j : Int)) := by unfold Hid; rw [← hf.out]; exact findFrom_yes (by omega) he
        obtain ⟨y, hy⟩ : ∃ y, rcvAt l j = y := ⟨_, rfl⟩
        rw [hy] at h0 hbq
        clear he hy
        go_wp2_with fail
        refine (withC_any _ _ _ _ _ (HX.out.stays (by first | exact hbr | go_grown))).mono ?_
        rintro e w1 ⟨rfl, hb⟩
        rw [hbq]
        have hB := hbr.trans (hb.mono hsr)
        clear hb
        go_wp2
        go_ret
        exact ⟨by rw [HE.out]; rfl, hB⟩
      · have hbq : ((rcvAt l j : Int) == (r : Int)) = false := by simp; omega
        have HE : Hid (findFrom l r (n - (j + 1)) (j + 1) = findE l r) := by
          unfold Hid
          rw [← hf.out, show n - j = (n - (j + 1)) + 1 by omega, findFrom_no he]
        obtain ⟨y, hy⟩ : ∃ y, rcvAt l j = y := ⟨_, rfl⟩
        rw [hy] at h0 hbq
        clear he hy
        go_wp2_with fail
        refine (withC_any _ _ _ _ _ (HX.out.stays (by first | exact hbr | go_grown))).mono ?_
        rintro e w1 ⟨rfl, hb⟩
        rw [hbq]
        have hB := hbr.trans (hb.mono hsr)
        clear hb
        go_wp2
        go_roundw
        case rel => exact ⟨j + 1, by omega, by go_num, HE, hB⟩
        case measure => simp [intOf]; omega
    · obtain rfl : j = n := by omega
      have HE : Hid (findE l r = -1) := by unfold Hid; rw [← hf.out, Nat.sub_self]; rfl
      go_wp2
      go_ret
      exact ⟨by rw [HE.out]; rfl, hbr⟩
set_option maxHeartbeats 1000000 in
theorem with_any (A : Option Addr) (n c : Nat) (l : List (Nat × Nat)) (r : Nat) (w : World) (hv : Echs w A n c l) :
    Calls Try.prog 19 #[.slice A n c, .int .u64 r] w fun e w' => e = .returned (.int .i64 (findE l r)) ∧ Below w.heap.size w w' := by
  have HV := Lib.hid hv
  clear hv
  go_enter Try.func19, Try.ntmps19
  go_upto_region 1 with fail
  obtain ⟨wx, g, hwx, hg⟩ : ∃ wx g, wx = w.alloc (.cells #[.int .u64 r] 25) ∧ g = w.heap.size := ⟨_, _, rfl, rfl⟩
  rw [← hwx, ← hg]
  have BX := Lib.hid (show Blk wx g 25 #[.int .u64 r] by rw [hwx, hg]; exact Blk.new _ _ _)
  have RX : Below w.heap.size w wx := by rw [hwx]; exact below_alloc1 _ _
  have HV := Lib.hid (HV.out.stays RX)
  clear hwx hg
  go_wp2_with fail
  refine (indexFunc_any _ _ _ _ _ _ _ HV.out BX.out).mono ?_
  rintro e w1 ⟨rfl, hb⟩
  have hB := RX.trans (hb.mono RX.size)
  clear hb
  go_wp2
  go_ret
  exact ⟨rfl, hB⟩
theorem infoEch : (Try.prog.info? 67).map (fun i => (i.zero, i.size, i.bytes)) = some (some (.agg #[.int .u64 0, .int .u64 0]), 2, 16) := by kernel_rfl

theorem Rd.kept {w w' : World} {size n c : Nat} {A : Option Addr} {xs : List Value} (h : Rd w size A n c xs) (hk : ∀ x, A = some x → w'.heap[x.block]? = w.heap[x.block]?) : Rd w' size A n c xs :=
  ⟨h.1, h.2.1, h.2.2.1, fun i u hu => by
    obtain ⟨b, off, rfl, hc⟩ := h.2.2.2 i u hu
    exact ⟨b, off, rfl, (World.cell?_of_block (a := ⟨b, off + i, none⟩) (hk ⟨b, off, none⟩ rfl)).trans hc⟩⟩
theorem Rd.cutTo {w : World} {size n c : Nat} {A : Option Addr} {xs : List Value} (h : Rd w size A n c xs) (m : Nat) (hm : m ≤ n) : Rd w size A m c (xs.take (m * size)) := by
  refine ⟨?_, Nat.le_trans hm h.2.1, h.2.2.1, fun i u hu => ?_⟩
  · rw [List.length_take, h.1]; exact Nat.min_eq_left (Nat.mul_le_mul_right _ hm)
  · rw [List.getElem?_take] at hu
    split at hu
    · exact h.2.2.2 i u hu
    · cases hu
theorem stores_heap (g j : Nat) (hne : j ≠ g) : ∀ (vs : List Value) (w : World) (k : Nat), (stores w g vs k).heap[j]? = w.heap[j]?
  | [], _, _ => rfl
  | v :: vs, w, k => (stores_heap g j hne vs _ (k + 1)).trans (Below.heap_setCell w ⟨g, k, none⟩ v j hne)
theorem echs_kept {w8 : World} {h n m c8 rc tx : Nat} {A8 : Option Addr} {l : List (Nat × Nat)} {vs : List Value} (hr : Rd w8 2 A8 (1 + n) c8 ([Value.int .u64 rc, Value.int .u64 tx] ++ echC l)) (hl : l.length = n) (hm : m ≤ 1 + n) (h8 : m = 8 ∨ m = 1 + n ∧ m ≤ 8)
    (hne : ∀ x, A8 = some x → x.block ≠ h) : Echs (stores w8 h vs 0).drew A8 m c8 (((rc, tx) :: l).take 8) := by
  have h1 := Rd.kept (w' := (stores w8 h vs 0).drew) (Rd.cutTo hr m hm) (fun x hx => stores_heap h x.block (hne x hx) vs w8 0)
  unfold Echs
  rw [echC_take]
  have e : (echC ((rc, tx) :: l)).take (8 * 2) = ([Value.int .u64 rc, Value.int .u64 tx] ++ echC l).take (m * 2) := by
    rcases h8 with rfl | ⟨rfl, h8⟩
    · rfl
    · rw [List.take_of_length_le (by rw [echC_length]; simp; omega), List.take_of_length_le (by simp [echC_length]; omega)]; rfl
  rw [e]
  exact h1
end Go.Proofs.Ytfkckokaclkjnaa
