import Derived.Test.YtnpfndlmbaafaaaKissB
namespace Go.Proofs.Ytnpfndlmbaafaaa
open Go.RowKit

/-- The four codes. -/
def codesL : List ByteArray := [⟨#[68, 69, 78, 89]⟩, ⟨#[82, 83, 84, 82]⟩, ⟨#[82, 65, 84, 69]⟩, ⟨#[78, 84, 83, 78]⟩]
theorem codesL_size (k : Nat) (hk : k < 4) : (strAt codesL k).size = 4 := by
  match k, hk with
  | 0, _ => rfl
  | 1, _ => rfl
  | 2, _ => rfl
  | 3, _ => rfl
/-- The number of a code. -/
def codeN (k : Nat) : Nat := be64 (strAt codesL k).data.toList 4
theorem codeN_lt (k : Nat) (hk : k < 4) : codeN k < 4294967296 := by
  match k, hk with
  | 0, _ => decide +kernel
  | 1, _ => decide +kernel
  | 2, _ => decide +kernel
  | 3, _ => decide +kernel

theorem codes_reads (w : World) (E : TypeId) : Strs (w.alloc (.cells (codesL.map Value.string).toArray E)) (some ⟨w.heap.size, 0, none⟩) 4 4 codesL := by
  refine ⟨rfl, Nat.le_refl _, by decide, fun i u hu => ⟨_, _, rfl, ?_⟩⟩
  rw [World.cell?_alloc_at _ _ _ _ rfl, Nat.zero_add]
  simpa using hu

set_option maxHeartbeats 400000 in
theorem kissCodes (w : World) : Calls Try.prog 49 #[] w fun e w' => ∃ A c, e = .returned (.slice A 4 c) ∧ Strs w' A 4 c codesL ∧ Below w.heap.size w w' := by
  go_enter Try.func49, Try.ntmps49
  go_wp2
  go_ret
  exact ⟨_, _, rfl, codes_reads w _, by go_grown⟩

set_option maxHeartbeats 400000 in
theorem refCodes (w : World) : Calls Try.prog 50 #[] w fun e w' => ∃ A c, e = .returned (.slice A 4 c) ∧ Strs w' A 4 c codesL ∧ Below w.heap.size w w' := by
  go_enter Try.func50, Try.ntmps50
  go_wp2
  go_ret
  exact ⟨_, _, rfl, codes_reads w _, by go_grown⟩

theorem str_ext {s t : ByteArray} (h : (s.toList == t.toList) = true) : s = t := by
  rw [beq_iff_eq, ByteArray.toList_eq, ByteArray.toList_eq, Array.toList_inj] at h
  exact ByteArray.ext h
theorem codes_no (k : Nat) (hk : k < 4) : ∀ i, i < k → ((strAt codesL k).toList == (strAt codesL i).toList) = false := by
  intro i hi
  match k, hk, i, hi with
  | 1, _, 0, _ => decide +kernel
  | 2, _, 0, _ => decide +kernel
  | 2, _, 1, _ => decide +kernel
  | 3, _, 0, _ => decide +kernel
  | 3, _, 1, _ => decide +kernel
  | 3, _, 2, _ => decide +kernel
theorem code_cases (s : ByteArray) : (∃ k, k < 4 ∧ s = strAt codesL k) ∨ ∀ i, i < 4 → (s.toList == (strAt codesL i).toList) = false := by
  by_cases h : ∃ k, k < 4 ∧ s = strAt codesL k
  · exact .inl h
  · refine .inr fun i hi => ?_
    cases hb : (s.toList == (strAt codesL i).toList)
    · rfl
    · exact absurd ⟨i, hi, str_ext hb⟩ h

set_option maxHeartbeats 1000000 in
theorem kissCode_yes (k : Nat) (hk : k < 4) (w : World) :
    Calls Try.prog 20 #[.string (strAt codesL k)] w fun e w' => e = .returned (.tuple #[.int .u32 (codeN k), .int .i64 0]) ∧ Below w.heap.size w w' := by
  have HS := Lib.hid (codesL_size k hk)
  have HC := Lib.hid (codeN_lt k hk)
  have HN := Lib.hid (codes_no k hk)
  have hcv := fun (W : World) => Lib.run_convert_string_bytes (P := Try.prog) W 9 52 5 (strAt codesL k) Try.underlying9 Try.underlying52 Try.underlying5
  go_enter Try.func20, Try.ntmps20
  go_wp2_with fail
  refine (kissCodes _).mono ?_
  rintro e w1 ⟨A, c, rfl, hst, hb1⟩
  go_wp2_with fail
  refine (contains_yes _ _ _ _ _ _ hst k hk HN.out (beq_self_eq_true _)).mono ?_
  rintro e w2 ⟨rfl, rfl⟩
  go_wp2_with fail
  refine (get_any _ _ _ _ _ (conv_reads _ _ _ (by rw [HS.out]; decide))).mono ?_
  rintro e w3 ⟨rfl, rfl⟩
  go_wp2
  go_ret2
  refine ⟨?_, below_then hb1 (conv_below _ _ _)⟩
  have h4 := HC.out
  simp
  rw [HS.out]
  unfold codeN at *
  omega

set_option maxHeartbeats 1000000 in
theorem kissCode_no (s : ByteArray) (hno : ∀ i, i < 4 → (s.toList == (strAt codesL i).toList) = false) (w : World) :
    Calls Try.prog 20 #[.string s] w fun e w' => e = .returned (.tuple #[.int .u32 0, .int .i64 11]) ∧ Below w.heap.size w w' := by
  have HN := Lib.hid hno
  clear hno
  go_enter Try.func20, Try.ntmps20
  go_wp2_with fail
  refine (kissCodes _).mono ?_
  rintro e w1 ⟨A, c, rfl, hst, hb1⟩
  go_wp2_with fail
  refine (contains_no _ _ _ _ _ _ hst HN.out).mono ?_
  rintro e w2 ⟨rfl, rfl⟩
  go_wp2
  go_ret2
  exact ⟨rfl, hb1⟩

/-- The name of a number. -/
theorem putL_inj {r k : Nat} (hr : r < 4294967296) (hk : k < 4) : ((strOf (putL r 4)).toList == (strAt codesL k).toList) = decide (codeN k = r) := by
  rw [strOf_toList]
  have hc : be (strAt codesL k).toList = codeN k := by
    match k, hk with
    | 0, _ => decide +kernel
    | 1, _ => decide +kernel
    | 2, _ => decide +kernel
    | 3, _ => decide +kernel
  have hp : putL (codeN k) 4 = (strAt codesL k).toList := by
    match k, hk with
    | 0, _ => decide +kernel
    | 1, _ => decide +kernel
    | 2, _ => decide +kernel
    | 3, _ => decide +kernel
  by_cases h : codeN k = r
  · subst h; rw [hp]; simp
  · rw [decide_eq_false h, beq_eq_false_iff_ne]
    intro e
    apply h
    rw [← hc, ← e, be_putL]
    omega

set_option maxHeartbeats 1000000 in
theorem kissName_yes (k : Nat) (hk : k < 4) (r : Nat) (hr : codeN k = r) (w : World) :
    Calls Try.prog 22 #[.int .u32 r] w fun e w' => e = .returned (.string (strAt codesL k)) ∧ Below w.heap.size w w' := by
  have hlt : r < 4294967296 := by rw [← hr]; exact codeN_lt k hk
  have e0 : strOf (putL r 4) = strAt codesL k := str_ext (by rw [putL_inj hlt hk]; simpa using hr)
  have E0 := Lib.hid e0
  have HN := Lib.hid (codes_no k hk)
  clear e0 hr
  go_enter Try.func22, Try.ntmps22
  go_wp2_with fail
  refine (put_reads r 4 (by omega) _).mono ?_
  rintro e w1 ⟨A, c, rfl, hv, hb⟩
  have hcv := conv_str (P := Try.prog) hv 52 9 5 Try.underlying52 Try.underlying5 Try.underlying9
  rw [E0.out] at hcv
  go_wp2_with fail
  refine (kissCodes _).mono ?_
  rintro e w1 ⟨A, c, rfl, hst, hb1⟩
  go_wp2_with fail
  refine (contains_yes _ _ _ _ _ _ hst k hk HN.out (beq_self_eq_true _)).mono ?_
  rintro e w2 ⟨rfl, rfl⟩
  go_wp2
  go_ret
  exact ⟨rfl, below_then hb hb1⟩

set_option maxHeartbeats 1000000 in
theorem kissName_no (r : Nat) (hlt : r < 4294967296) (hno : ∀ k, k < 4 → codeN k ≠ r) (w : World) :
    Calls Try.prog 22 #[.int .u32 r] w fun e w' => e = .returned (.string ⟨#[]⟩) ∧ Below w.heap.size w w' := by
  have HN : Hid (∀ i, i < 4 → ((strOf (putL r 4)).toList == (strAt codesL i).toList) = false) := fun i hi => by rw [putL_inj hlt hi]; simpa using hno i hi
  clear hno
  go_enter Try.func22, Try.ntmps22
  go_wp2_with fail
  refine (put_reads r 4 (by omega) _).mono ?_
  rintro e w1 ⟨A, c, rfl, hv, hb⟩
  have hcv := conv_str (P := Try.prog) hv 52 9 5 Try.underlying52 Try.underlying5 Try.underlying9
  go_wp2_with fail
  refine (kissCodes _).mono ?_
  rintro e w1 ⟨A, c, rfl, hst, hb1⟩
  go_wp2_with fail
  refine (contains_no _ _ _ _ _ _ hst HN.out).mono ?_
  rintro e w2 ⟨rfl, rfl⟩
  go_wp2
  go_ret
  exact ⟨rfl, below_then hb hb1⟩
end Go.Proofs.Ytnpfndlmbaafaaa
