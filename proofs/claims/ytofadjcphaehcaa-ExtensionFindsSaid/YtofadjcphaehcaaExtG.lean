/- Extension fields: known, light and ints of the statements. -/
import Derived.Test.YtofadjcphaehcaaExtF
import Derived.Test.YtofadjcphaehcaaOctK
namespace Go.Proofs.Ytofadjcphaehcaa
open Go.RowKit

theorem ext_flds (w : World) : FldL ((w.alloc (.cells #[.int .u8 9] 5)).alloc (.cells #[.int .i64 260, .slice (some ⟨w.heap.size, 0, none⟩) 1 1] 38)) (some ⟨w.heap.size + 1, 0, none⟩) 1 1 [(260, [9])] := by
  refine ⟨[.int .i64 260, .slice (some ⟨w.heap.size, 0, none⟩) 1 1], ⟨rfl, Nat.le_refl _, by simp [maxLen], fun i u hu => ⟨_, _, rfl, ?_⟩⟩, rfl, fun i f hf => ?_⟩
  · rw [World.cell?_alloc_at _ _ _ _ (by simp), Nat.zero_add]; simpa using hu
  · match i, hf with
    | 0, hf =>
      simp at hf
      subst hf
      exact ⟨_, 1, 1, rfl, rfl, (bytes_lit [9] #[.int .u8 9] rfl rfl (by decide)).stays ((Below.refl _ _).alloc (Nat.le_refl _) _)⟩
set_option maxRecDepth 100000 in
set_option maxHeartbeats 4000000 in
theorem extKnown (w : World) : Calls Try.prog 23 #[] w fun e w' => e = .returned (.bool true) ∧ Below w.heap.size w w' := by
  have hw := Lib.hid (fun (W : World) => encode_any _ _ _ _ _ (ext_flds W) (fun k => by match k with | 0 => decide | k + 1 => simp [fldD]))
  rw [show encodeX [((260 : Int), [(9 : UInt8)])] = ([1, 4, 0, 16, 9, 0, 0, 0, 0, 0, 0, 0, 0, 0, 0, 0], 0) by decide +kernel] at hw
  have h2 : Hid (strOf (hexL [1, 4, 0, 16, 9, 0, 0, 0, 0, 0, 0, 0, 0, 0, 0, 0]) = ⟨#[48, 49, 48, 52, 48, 48, 49, 48, 48, 57, 48, 48, 48, 48, 48, 48, 48, 48, 48, 48, 48, 48, 48, 48, 48, 48, 48, 48, 48, 48, 48, 48]⟩) := by unfold Hid; decide +kernel
  go_enter Try.func23, Try.ntmps23
  go_wp2_with fail
  refine (hw.out _).mono ?_
  rintro e w1 ⟨A1, n1, c1, rfl, hv, hb⟩
  have hbx : Below w.heap.size w w1 := below_via (by go_grown) hb (by first | (simp; done) | (simp; omega))
  have V1 := Lib.hid hv
  have hl := hv.len
  obtain rfl : n1 = 16 := hl.symm
  have R1 := Lib.hid hbx
  have hs1 := R1.out.size
  clear hb hbx hv hl
  go_wp2_with fail
  refine (hex_any _ _ _ _ _ V1.out (by omega)).mono ?_
  rintro e w2 ⟨rfl, hb⟩
  have R2 := Lib.hid (R1.out.trans (hb.mono hs1))
  clear hb
  rw [h2.out]
  go_wp2
  go_ret
  exact ⟨rfl, R2.out⟩
/-- The bytes of a field are few enough to be looked at. -/
def lt1 (n : Nat) : Prop := ¬ (80 < n ∧ n < 1200 ∨ 1300 < n)
def lightX (fs : List (Int × List UInt8)) : Prop := fs.length ≤ 30 ∧ ∀ k, k < fs.length → lt1 (fldD fs k).length
instance (n : Nat) : Decidable (lt1 n) := by unfold lt1; infer_instance
instance (fs : List (Int × List UInt8)) : Decidable (lightX fs) := by unfold lightX; infer_instance
theorem lightX.le {fs : List (Int × List UInt8)} (h : lightX fs) (k : Nat) : (fldD fs k).length ≤ 1300 := by
  by_cases hk : k < fs.length
  · have := h.2 k hk
    unfold lt1 at this; omega
  · simp [fldD, List.getD, hk]
set_option maxRecDepth 100000 in
set_option maxHeartbeats 4000000 in
theorem light_any (A : Option Addr) (n c : Nat) (fs : List (Int × List UInt8)) (w : World) (hv : FldL w A n c fs) :
    Calls Try.prog 48 #[.slice A n c] w fun e w' => e = .returned (.bool (decide (lightX fs))) ∧ Below w.heap.size w w' := by
  have hcap := hv.cap
  have hle := hv.le
  have HL := Lib.hid hv.len
  have HV := Lib.hid hv
  clear hv
  by_cases hn : 30 < n
  ·
    have q1 : (30 : Int) < (n : Int) := by omega
    have HN : Hid (decide (lightX fs) = false) := decide_eq_false (fun h => by have h1 := h.1; have h2 := HL.out; omega)
    clear hn
    go_enter Try.func48, Try.ntmps48
    go_wp2
    go_ret
    exact ⟨by rw [HN.out]; rfl, Below.refl _ _⟩
  have q1 : ¬ (30 : Int) < (n : Int) := by omega
  go_enter Try.func48, Try.ntmps48
  go_wp2_with fail
  go_loopw [3] (fun i wr => ∃ k : Nat, k ≤ n ∧ i = .int .i64 k ∧ Hid (∀ j, j < k → lt1 (fldD fs j).length) ∧ Below w.heap.size w wr) (fun i _ => n - (intOf i).toNat)
  case atStart => exact ⟨0, Nat.zero_le _, rfl, (fun j hj => by omega), Below.refl _ _⟩
  case round =>
    obtain ⟨k, hk, rfl, HT, hbr⟩ := hrel
    have RW := Lib.hid hbr
    have hz_wr := hbr.size
    by_cases hkn : k < n
    ·
      have hki : (k : Int) < (n : Int) := by omega
      obtain ⟨bb, off, A', n', c', rfl, hc0, hc1, hy⟩ := (HV.out.stays hbr).at_ hkn
      have HYL := Lib.hid hy.len
      have hyc := hy.cap
      have hyle := hy.le
      clear hy hc0 hbr
      by_cases h80 : 80 < n'
      ·
        have e80 : (80 : Int) < (n' : Int) := by omega
        by_cases h12 : n' < 1200
        ·
          have e12 : (n' : Int) < 1200 := by omega
          have HN : Hid (decide (lightX fs) = false) := decide_eq_false (fun h => by
            have h1 := h.2 k (by rw [HL.out]; exact hkn)
            rw [HYL.out] at h1; unfold lt1 at h1; omega)
          go_wp2
          go_ret
          exact ⟨by rw [HN.out]; rfl, RW.out⟩
        have e12 : ¬ (n' : Int) < 1200 := by omega
        by_cases h13 : 1300 < n'
        ·
          have e13 : (1300 : Int) < (n' : Int) := by omega
          have HN : Hid (decide (lightX fs) = false) := decide_eq_false (fun h => by
            have h1 := h.2 k (by rw [HL.out]; exact hkn)
            rw [HYL.out] at h1; unfold lt1 at h1; omega)
          go_wp2
          go_ret
          exact ⟨by rw [HN.out]; rfl, RW.out⟩
        have e13 : ¬ (1300 : Int) < (n' : Int) := by omega
        have HS : Hid (∀ j, j < k + 1 → lt1 (fldD fs j).length) := fun j hj => by
          rcases Nat.lt_or_ge j k with h | h
          · exact HT.out j h
          · obtain rfl : j = k := by omega
            rw [HYL.out]; unfold lt1; omega
        go_wp2
        go_roundw
        case rel => exact ⟨k + 1, by omega, by go_num, HS, RW.out⟩
        case measure => simp [intOf]; omega
      have e80 : ¬ (80 : Int) < (n' : Int) := by omega
      have e13 : ¬ (1300 : Int) < (n' : Int) := by omega
      have HS : Hid (∀ j, j < k + 1 → lt1 (fldD fs j).length) := fun j hj => by
        rcases Nat.lt_or_ge j k with h | h
        · exact HT.out j h
        · obtain rfl : j = k := by omega
          rw [HYL.out]; unfold lt1; omega
      go_wp2
      go_roundw
      case rel => exact ⟨k + 1, by omega, by go_num, HS, RW.out⟩
      case measure => simp [intOf]; omega
    · obtain rfl : k = n := by omega
      have HY : Hid (decide (lightX fs) = true) := decide_eq_true ⟨by rw [HL.out]; omega, fun j hj => HT.out j (by rw [← HL.out]; exact hj)⟩
      go_wp2
      go_ret
      exact ⟨by rw [HY.out]; rfl, RW.out⟩
theorem ints_at {w : World} {A A2 : Option Addr} {n c c2 k : Nat} {l : List Nat} (h1 : IntsL w A n c l) (h2 : IntsL w A2 n c2 l) (hk : k < n) : ∃ (x b o : Nat), A = some ⟨b, o, none⟩ ∧ w.cell? ⟨b, o + k, none⟩ = some (.int .i64 (x : Int)) ∧ ∃ b2 o2 : Nat, A2 = some ⟨b2, o2, none⟩ ∧ w.cell? ⟨b2, o2 + k, none⟩ = some (.int .i64 (x : Int)) := by
  have hl : k < l.length := by rw [h1.len]; exact hk
  have e : (l.map fun (x : Nat) => Value.int .i64 (x : Int))[k]? = some (.int .i64 (l[k] : Int)) := by simp [hl]
  obtain ⟨b, o, ha, hc⟩ := h1.2.2.2 k _ e
  obtain ⟨b2, o2, ha2, hc2⟩ := h2.2.2.2 k _ e
  exact ⟨l[k], b, o, ha, hc, b2, o2, ha2, hc2⟩
set_option maxRecDepth 100000 in
set_option maxHeartbeats 4000000 in
theorem ints_true {A A2 : Option Addr} {n c c2 : Nat} {l : List Nat} {w : World} (h1 : IntsL w A n c l) (h2 : IntsL w A2 n c2 l) :
    Calls Try.prog 52 #[.slice A n c, .slice A2 n c2] w fun e w' => e = .returned (.bool true) ∧ Below w.heap.size w w' := by
  have q1 := h1.2.1
  have q2 := h1.2.2.1
  have q3 := h2.2.1
  have q4 := h2.2.2.1
  unfold maxLen at q2 q4
  have HL := Lib.hid h1.len
  have H1 := Lib.hid h1
  have H2 := Lib.hid h2
  clear h1 h2
  go_enter Try.func52, Try.ntmps52
  go_wp2_with fail
  go_loopw [5] (fun i wr => ∃ k : Nat, k ≤ n ∧ i = .int .i64 k ∧ Below w.heap.size w wr) (fun i _ => n - (intOf i).toNat)
  case atStart => exact ⟨0, Nat.zero_le _, rfl, Below.refl _ _⟩
  case round =>
    obtain ⟨k, hk, rfl, hbr⟩ := hrel
    have RW := Lib.hid hbr
    by_cases hkn : k < n
    ·
      have hki : (k : Int) < (n : Int) := by omega
      obtain ⟨x, b1, o1, rfl, k1, b2, o2, rfl, k2⟩ := ints_at (H1.out.stays hbr) (H2.out.stays hbr) hkn
      clear hbr
      go_wp2_with fail
      refine region_still (by kernel_rfl) (by kernel_rfl) ?_
      repeat ((with_reducible refine wpStill_step (fun K hK => ?_)); go_simp; (with_reducible refine hK _ ?_); clear hK K)
      refine wpStill_nil ?_
      go_wp2
      go_roundw
      case rel => exact ⟨k + 1, by omega, by go_num, RW.out.drew⟩
      case measure => simp [intOf]; omega
    · obtain rfl : k = n := by omega
      go_wp2
      go_ret
      exact ⟨rfl, RW.out⟩
theorem ints_eq {A A2 : Option Addr} {n c n2 c2 : Nat} {l : List Nat} {w : World} (h1 : IntsL w A n c l) (h2 : IntsL w A2 n2 c2 l) :
    Calls Try.prog 52 #[.slice A n c, .slice A2 n2 c2] w fun e w' => e = .returned (.bool true) ∧ Below w.heap.size w w' := by
  obtain rfl : n = n2 := h1.len.symm.trans h2.len
  exact ints_true h1 h2
end Go.Proofs.Ytofadjcphaehcaa
