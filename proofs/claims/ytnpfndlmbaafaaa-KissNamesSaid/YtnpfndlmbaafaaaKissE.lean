import Derived.Test.YtnpfndlmbaafaaaKissD
namespace Go.Proofs.Ytnpfndlmbaafaaa
open Go.RowKit

set_option maxHeartbeats 1000000 in
theorem refCode_yes (k : Nat) (hk : k < 4) (w : World) :
    Calls Try.prog 21 #[.string (strAt codesL k)] w fun e w' => e = .returned (.tuple #[.int .u32 (codeN k), .int .i64 0]) ∧ Below w.heap.size w w' := by
  have HS := Lib.hid (codesL_size k hk)
  have HC := Lib.hid (codeN_lt k hk)
  have HN := Lib.hid (codes_no k hk)
  have hcv := fun (W : World) => Lib.run_convert_string_bytes (P := Try.prog) W 9 52 5 (strAt codesL k) Try.underlying9 Try.underlying52 Try.underlying5
  go_enter Try.func21, Try.ntmps21
  go_wp2_with fail
  refine (refCodes _).mono ?_
  rintro e w1 ⟨A, c, rfl, hst, hb1⟩
  have hcap := hst.cap
  have hle := hst.le
  go_wp2
  go_loop [5] (fun i => ∃ j : Nat, j ≤ k ∧ i = .int .i64 j) (fun i => k - (intOf i).toNat)
  case atStart => exact ⟨0, Nat.zero_le _, rfl⟩
  case round =>
    obtain ⟨j, hj, rfl⟩ := hrel
    obtain ⟨b, off, rfl, hc⟩ := hst.at_ (show j < 4 by omega)
    by_cases hjk : j < k
    · have hn := HN.out j hjk
      have hn' : ((strAt codesL j).toList == (strAt codesL k).toList) = false := by rw [beq_eq_false_iff_ne] at hn ⊢; exact fun e => hn e.symm
      clear hn
      go_wp2_with fail
      go_round
      case rel => exact ⟨j + 1, by omega, by go_num⟩
      case measure => simp [intOf]; omega
    · obtain rfl : j = k := by omega
      have hn' : ((strAt codesL j).toList == (strAt codesL j).toList) = true := beq_self_eq_true _
      go_wp2_with fail
      refine (refGet_any _ _ _ _ _ (conv_reads _ _ _ (by rw [HS.out]; decide))).mono ?_
      rintro e w3 ⟨rfl, rfl⟩
      go_wp2
      go_ret2
      refine ⟨?_, below_then hb1 (conv_below _ _ _)⟩
      have h4 := HC.out
      simp
      rw [HS.out]
      unfold codeN at *
      omega

set_option maxHeartbeats 1000000 in
theorem refCode_no (s : ByteArray) (hno : ∀ i, i < 4 → (s.toList == (strAt codesL i).toList) = false) (w : World) :
    Calls Try.prog 21 #[.string s] w fun e w' => e = .returned (.tuple #[.int .u32 0, .int .i64 11]) ∧ Below w.heap.size w w' := by
  have HN := Lib.hid hno
  clear hno
  go_enter Try.func21, Try.ntmps21
  go_wp2_with fail
  refine (refCodes _).mono ?_
  rintro e w1 ⟨A, c, rfl, hst, hb1⟩
  have hcap := hst.cap
  have hle := hst.le
  go_wp2
  go_loop [5] (fun i => ∃ j : Nat, j ≤ 4 ∧ i = .int .i64 j) (fun i => 4 - (intOf i).toNat)
  case atStart => exact ⟨0, Nat.zero_le _, rfl⟩
  case round =>
    obtain ⟨j, hj, rfl⟩ := hrel
    by_cases hjk : j < 4
    · obtain ⟨b, off, rfl, hc⟩ := hst.at_ hjk
      have hn := HN.out j hjk
      have hn' : ((strAt codesL j).toList == s.toList) = false := by rw [beq_eq_false_iff_ne] at hn ⊢; exact fun e => hn e.symm
      clear hn
      go_wp2_with fail
      go_round
      case rel => exact ⟨j + 1, by omega, by go_num⟩
      case measure => simp [intOf]; omega
    · go_wp2
      go_ret2
      exact ⟨rfl, hb1⟩

theorem codeN_inj (j k : Nat) (hj : j < 4) (hk : k < 4) (h : codeN j = codeN k) : j = k := by
  have : ∀ a, a < 4 → ∀ b, b < 4 → codeN a = codeN b → a = b := by decide +kernel
  exact this j hj k hk h

set_option maxHeartbeats 1000000 in
theorem refName_yes (k : Nat) (hk : k < 4) (r : Nat) (hr : codeN k = r) (w : World) :
    Calls Try.prog 23 #[.int .u32 r] w fun e w' => e = .returned (.string (strAt codesL k)) ∧ Below w.heap.size w w' := by
  have HR := Lib.hid hr
  clear hr
  have hcv := fun (W : World) (j : Nat) => Lib.run_convert_string_bytes (P := Try.prog) W 9 52 5 (strAt codesL j) Try.underlying9 Try.underlying52 Try.underlying5
  go_enter Try.func23, Try.ntmps23
  go_wp2_with fail
  refine (refCodes _).mono ?_
  rintro e w1 ⟨A, c, rfl, hst, hb1⟩
  have hcap := hst.cap
  have hle := hst.le
  go_wp2
  go_loopw [4] (fun i wr => ∃ j : Nat, j ≤ k ∧ i = .int .i64 j ∧ Below w.heap.size w wr ∧ Strs wr A 4 c codesL) (fun i _ => k - (intOf i).toNat)
  case atStart => exact ⟨0, Nat.zero_le _, rfl, hb1, hst⟩
  case round =>
    obtain ⟨j, hj, rfl, hbr, hsr⟩ := hrel
    have HSZ := Lib.hid (codesL_size j (by omega))
    obtain ⟨b, off, rfl, hc⟩ := hsr.at_ (show j < 4 by omega)
    go_wp2_with fail
    refine (refGet_any _ _ _ _ _ (conv_reads _ _ _ (by rw [HSZ.out]; decide))).mono ?_
    rintro e w3 ⟨rfl, rfl⟩
    rw [HSZ.out, show be64 (strAt codesL j).data.toList 4 = codeN j from rfl]
    have hcl := codeN_lt j (by omega)
    have hcb := conv_below wr 5 (strAt codesL j)
    have hs2 := hsr.stays hcb
    have hb2 := below_then hbr hcb
    by_cases hjk : j < k
    · have hne : codeN j ≠ r := by rw [← HR.out]; intro e; have := codeN_inj j k (by omega) hk e; omega
      have hne' : ((codeN j : Int) == (r : Int)) = false := beq_eq_false_iff_ne.2 (by omega)
      go_wp2
      go_roundw
      case rel => exact ⟨j + 1, by omega, by go_num, hb2, hs2⟩
      case measure => simp [intOf]; omega
    · obtain rfl : j = k := by omega
      have heq : ((codeN j : Int) == (r : Int)) = true := by rw [HR.out]; simp
      obtain ⟨b', off', e', hc2⟩ := hs2.at_ (show j < 4 by omega)
      simp only [Option.some.injEq, Addr.mk.injEq, and_true] at e'
      obtain ⟨rfl, rfl⟩ := e'
      go_wp2
      go_ret
      exact ⟨rfl, hb2⟩

set_option maxHeartbeats 1000000 in
theorem refName_no (r : Nat) (hno : ∀ k, k < 4 → codeN k ≠ r) (w : World) :
    Calls Try.prog 23 #[.int .u32 r] w fun e w' => e = .returned (.string ⟨#[]⟩) ∧ Below w.heap.size w w' := by
  have HN := Lib.hid hno
  clear hno
  have hcv := fun (W : World) (j : Nat) => Lib.run_convert_string_bytes (P := Try.prog) W 9 52 5 (strAt codesL j) Try.underlying9 Try.underlying52 Try.underlying5
  go_enter Try.func23, Try.ntmps23
  go_wp2_with fail
  refine (refCodes _).mono ?_
  rintro e w1 ⟨A, c, rfl, hst, hb1⟩
  have hcap := hst.cap
  have hle := hst.le
  go_wp2
  go_loopw [4] (fun i wr => ∃ j : Nat, j ≤ 4 ∧ i = .int .i64 j ∧ Below w.heap.size w wr ∧ Strs wr A 4 c codesL) (fun i _ => 4 - (intOf i).toNat)
  case atStart => exact ⟨0, Nat.zero_le _, rfl, hb1, hst⟩
  case round =>
    obtain ⟨j, hj, rfl, hbr, hsr⟩ := hrel
    by_cases hjk : j < 4
    · have HSZ := Lib.hid (codesL_size j (by omega))
      obtain ⟨b, off, rfl, hc⟩ := hsr.at_ hjk
      go_wp2_with fail
      refine (refGet_any _ _ _ _ _ (conv_reads _ _ _ (by rw [HSZ.out]; decide))).mono ?_
      rintro e w3 ⟨rfl, rfl⟩
      rw [HSZ.out, show be64 (strAt codesL j).data.toList 4 = codeN j from rfl]
      have hcl := codeN_lt j (by omega)
      have hcb := conv_below wr 5 (strAt codesL j)
      have hs2 := hsr.stays hcb
      have hb2 := below_then hbr hcb
      have hne := HN.out j hjk
      have hne' : ((codeN j : Int) == (r : Int)) = false := beq_eq_false_iff_ne.2 (by omega)
      clear hne
      go_wp2
      go_roundw
      case rel => exact ⟨j + 1, by omega, by go_num, hb2, hs2⟩
      case measure => simp [intOf]; omega
    · go_wp2
      go_ret
      exact ⟨rfl, hbr⟩

/-- The same name by both, whatever it is. -/
theorem names_same (r : Nat) (hr : r < 4294967296) : ∃ s, (∀ w, Calls Try.prog 22 #[.int .u32 r] w fun e w' => e = .returned (.string s) ∧ Below w.heap.size w w') ∧
    ∀ w, Calls Try.prog 23 #[.int .u32 r] w fun e w' => e = .returned (.string s) ∧ Below w.heap.size w w' := by
  by_cases h : ∃ k, k < 4 ∧ codeN k = r
  · obtain ⟨k, hk, hc⟩ := h
    exact ⟨_, kissName_yes k hk r hc, refName_yes k hk r hc⟩
  · have hno : ∀ k, k < 4 → codeN k ≠ r := fun k hk e => h ⟨k, hk, e⟩
    exact ⟨_, kissName_no r hr hno, refName_no r hno⟩

theorem seven (s : ByteArray) (m : Nat) (h : m < 7) : ∃ t : ByteArray, ∀ h', ([Value.string s, .string ⟨#[68, 69, 78, 89]⟩, .string ⟨#[82, 83, 84, 82]⟩, .string ⟨#[82, 65, 84, 69]⟩, .string ⟨#[78, 84, 83, 78]⟩, .string ⟨#[114, 97, 116, 101]⟩, .string ⟨#[82, 65, 84, 69, 32]⟩] : List Value)[m]'h' = .string t := by
  match m, h with
  | 0, _ => exact ⟨_, fun _ => rfl⟩
  | 1, _ => exact ⟨_, fun _ => rfl⟩
  | 2, _ => exact ⟨_, fun _ => rfl⟩
  | 3, _ => exact ⟨_, fun _ => rfl⟩
  | 4, _ => exact ⟨_, fun _ => rfl⟩
  | 5, _ => exact ⟨_, fun _ => rfl⟩
  | 6, _ => exact ⟨_, fun _ => rfl⟩

set_option maxHeartbeats 2000000 in
theorem kissNames_walk (r : Nat) (hr : r < 4294967296) (name : ByteArray) (a2 : Int) (hs : name.size ≤ 9223372036854775807) (w : World) :
    Calls Try.prog 4 #[.int .u32 r, .string name, .int .i64 a2] w fun e w' => e = .returned (.bool true) ∧ Below w.heap.size w w' := by
  by_cases hlong : 100 < name.size
  · go_enter Try.func4, Try.ntmps4
    go_wp2_with fail
    refine (kissKnown _).mono ?_
    rintro e w1 ⟨rfl, hb1⟩
    go_wp2
    go_ret
    exact ⟨rfl, hb1⟩
  · obtain ⟨m, hm⟩ : ∃ m : Nat, a2 % 7 = m := Int.eq_ofNat_of_zero_le (by omega)
    have hm7 : m < 7 := by omega
    have cw := Lib.hid (fun W => within_any a2 7 (by omega) (by omega) W); rw [hm] at cw
    clear hm
    obtain ⟨t, ht⟩ := seven name m hm7
    obtain ⟨nm, n1, n2⟩ := names_same r hr
    have N1 := Lib.hid n1
    have N2 := Lib.hid n2
    clear n1 n2 hr
    go_enter Try.func4, Try.ntmps4
    go_wp2_with fail
    refine (cw.out _).mono ?_
    rintro e w1 ⟨rfl, rfl⟩
    go_wp2_with fail
    clear ht
    rcases code_cases t with ⟨k, hk, rfl⟩ | hno
    · refine (kissCode_yes k hk _).mono ?_
      rintro e w1 ⟨rfl, hb1⟩
      have hB1 := below_via (B := w.heap.size) (w := w) (by go_grown) hb1 (by simp)
      clear hb1
      go_wp2_with fail
      refine (refCode_yes k hk _).mono ?_
      rintro e w2 ⟨rfl, hb2⟩
      have hB2 := hB1.trans (hb2.mono hB1.size)
      clear hb2
      go_wp2_with fail
      refine (kissKnown _).mono ?_
      rintro e w3 ⟨rfl, hb3⟩
      have hB3 := hB2.trans (hb3.mono hB2.size)
      clear hb3
      go_wp2_with fail
      refine (N1.out _).mono ?_
      rintro e w4 ⟨rfl, hb4⟩
      have hB4 := hB3.trans (hb4.mono hB3.size)
      clear hb4
      go_wp2_with fail
      refine (N2.out _).mono ?_
      rintro e w5 ⟨rfl, hb5⟩
      have hB5 := hB4.trans (hb5.mono hB4.size)
      clear hb5
      go_wp2_with fail
      refine (kissName_yes k hk _ rfl _).mono ?_
      rintro e w6 ⟨rfl, hb6⟩
      have hB6 := hB5.trans (hb6.mono hB5.size)
      clear hb6
      go_wp2
      go_ret
      exact ⟨rfl, hB6⟩
    · have HNO := Lib.hid hno
      clear hno
      refine (kissCode_no t HNO.out _).mono ?_
      rintro e w1 ⟨rfl, hb1⟩
      have hB1 := below_via (B := w.heap.size) (w := w) (by go_grown) hb1 (by simp)
      clear hb1
      go_wp2_with fail
      refine (refCode_no t HNO.out _).mono ?_
      rintro e w2 ⟨rfl, hb2⟩
      have hB2 := hB1.trans (hb2.mono hB1.size)
      clear hb2
      go_wp2_with fail
      refine (kissKnown _).mono ?_
      rintro e w3 ⟨rfl, hb3⟩
      have hB3 := hB2.trans (hb3.mono hB2.size)
      clear hb3
      go_wp2_with fail
      refine (N1.out _).mono ?_
      rintro e w4 ⟨rfl, hb4⟩
      have hB4 := hB3.trans (hb4.mono hB3.size)
      clear hb4
      go_wp2_with fail
      refine (N2.out _).mono ?_
      rintro e w5 ⟨rfl, hb5⟩
      have hB5 := hB4.trans (hb5.mono hB4.size)
      clear hb5
      go_wp2
      go_ret
      exact ⟨rfl, hB5⟩
theorem kissNames_walk' (a0 : Int) (w0 : (Lit.int .u32 a0).wf = true) (name : ByteArray) (h : name.size ≤ maxLen) (a2 : Int) (w : World) :
    Calls Try.prog 4 #[.int .u32 a0, .string name, .int .i64 a2] w fun e w' => e = .returned (.bool true) ∧ Below w.heap.size w w' := by
  have hb := bounds_u32 w0
  obtain ⟨r, rfl⟩ := Int.eq_ofNat_of_zero_le hb.1
  exact kissNames_walk r (by omega) name a2 (by unfold maxLen at h; omega) w
end Go.Proofs.Ytnpfndlmbaafaaa
