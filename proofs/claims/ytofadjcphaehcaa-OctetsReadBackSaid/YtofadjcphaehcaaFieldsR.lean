/- sectimeref01.Fields, SameFields. -/
import Derived.Test.YtofadjcphaehcaaFields
import Derived.Test.YtofadjcphaehcaaRefJoin
import Derived.Test.YtofadjcphaehcaaSame
namespace Go.Proofs.Ytofadjcphaehcaa
open Go.RowKit

theorem rd_join1 {w : World} {B : Nat} {A : Option Addr} {n c : Nat} {a : List UInt8} (h : w.ownsRow B 5 1 (.slice A n c) n ([a].flatten.map byteV)) : Bytes w A n c a := by
  have := own_rd h
  simpa [Bytes] using this
set_option maxRecDepth 100000 in
set_option maxHeartbeats 4000000 in
theorem refFields_any (l : List UInt8) (A : Option Addr) (n c : Nat) (w : World) (h : Bytes w A n c l) (hn : n ≤ 65535) :
    Calls Try.prog 40 #[.slice A n c] w fun e w' => ((∃ fs A' m c', fldF n l = some fs ∧ e = .returned (.tuple #[.slice A' m c', .int .i64 0]) ∧ FldL w' A' m c' fs) ∨
      (fldF n l = none ∧ e = .returned (.tuple #[.slice none 0 0, .int .i64 1]))) ∧ Below w.heap.size w w' := by
  obtain ⟨i0, hi, hz0, hz1, hz2⟩ := info_parts infoFld
  obtain ⟨R, hR⟩ : ∃ R, fldF n l = R := ⟨_, rfl⟩
  rw [hR]
  have HB := Lib.hid h
  have HR := Lib.hid hR
  have HLl := Lib.hid h.len
  have hcap0 := h.cap
  have hle0 := h.le
  clear h hR
  have hni : ¬ (n : Int) > 65535 := by omega
  go_enter Try.func40, Try.ntmps40
  go_wp2
  go_loopw [4, 5, 6] (fun o i _ wr => ∃ (k j mo co : Nat) (AO : Option Addr) (fs : List (Int × List UInt8)), j ≤ n ∧ i = .int .i64 j ∧ o = .slice AO mo co ∧ 4 * mo ≤ j ∧
      Hid (FldsAt wr w.heap.size AO mo co fs) ∧ Hid (n - j ≤ k ∧ (fldF k (l.drop j)).map (fs ++ ·) = R) ∧ Below w.heap.size w wr) (fun _ i _ _ => n - (intOf i).toNat)
  case atStart => exact ⟨n, 0, 0, 0, none, [], by omega, rfl, rfl, by omega, OwnItems.nil _ _, ⟨by omega, by rw [List.drop_zero, HR.out]; cases R <;> simp⟩, by go_grown⟩
  case round =>
    obtain ⟨k, j, mo, co, AO, fs, hj, rfl, rfl, hmo, HO, HF, hbr⟩ := hrel
    have hsr := hbr.size
    have q3 := HO.out.cap
    have q4 := HO.out.le
    have hlr : (l.drop j).length = n - j := by rw [List.length_drop, HLl.out]
    by_cases hm0 : j = n
    · subst hm0
      go_wp2
      go_returns
      have e1 : l.drop j = [] := List.eq_nil_of_length_eq_zero (by omega)
      have e2 := HF.out.2
      rw [e1, fldF_nil] at e2
      exact ⟨.inl ⟨fs, AO, mo, co, by rw [← e2]; simp, rfl, HO.out.flds⟩, hbr⟩
    have hmp : (j : Int) < (n : Int) := by omega
    by_cases hm4 : n - j < 4
    · have hm4i : (n : Int) - (j : Int) < 4 := by omega
      have HN := Lib.hid (fldF_short HF.out.2 (by rw [hlr]; exact HF.out.1) (by omega) (.inl (by omega)))
      clear hlr
      go_wp2
      go_returns
      exact ⟨.inr ⟨HN.out, rfl⟩, by first | exact hbr | go_grown⟩
    have hm4i : ¬ (n : Int) - (j : Int) < 4 := by omega
    have h2 := two_lt ((l.drop j).drop 2) (by rw [List.length_drop, hlr]; omega)
    have h3 := two_lt (l.drop j) (by omega)
    obtain ⟨q, hq⟩ : ∃ q, two ((l.drop j).drop 2) = q := ⟨_, rfl⟩
    obtain ⟨ty, hty⟩ : ∃ ty, two (l.drop j) = ty := ⟨_, rfl⟩
    have s1 := run_cut und_bytes size_byte (A := A) (n := n) (c := c) ((j : Int) + 2) ((j : Int) + 4) (j + 2) (j + 4) 2 (c - (j + 2)) (by omega) (by omega) (by omega) (by omega) (by omega) rfl
    have V1 := Lib.hid ((HB.out.stays hbr).cutS (j + 2) (j + 4) (by omega) (by omega) (d := 2) (k := c - (j + 2)) (by omega) rfl)
    have E1 : Hid (be64 ((l.drop (j + 2)).take 2) 2 = q) := by unfold Hid; rw [← List.drop_drop]; exact hq
    have E2 : Hid (be64 ((l.drop j).take 2) 2 = ty) := hty
    have HQ := Lib.hid hq
    have HT := Lib.hid hty
    have HLR := Lib.hid hlr
    rw [hq] at h2
    rw [hty] at h3
    clear hq hty hlr
    have wq : IntKind.i64.wrap (q : Int) = (q : Int) := IntWalk.i64_in _ (by omega)
    have wt : IntKind.i64.wrap (ty : Int) = (ty : Int) := IntWalk.i64_in _ (by omega)
    by_cases hqm : n - j - 4 < q
    · have hqi : (n : Int) - (j : Int) - 4 < (q : Int) := by omega
      have HN := Lib.hid (fldF_short HF.out.2 (by rw [HLR.out]; exact HF.out.1) (by rw [HLR.out]; omega) (.inr (by rw [HLR.out, HQ.out]; omega)))
      go_wp2_with fail
      refine (refGet_any _ _ _ _ _ V1.out).mono ?_
      rintro e wx ⟨rfl, rfl⟩
      rw [E1.out]
      go_wp2
      go_returns
      exact ⟨.inr ⟨HN.out, rfl⟩, by first | exact hbr | go_grown⟩
    have hqi : ¬ (n : Int) - (j : Int) - 4 < (q : Int) := by omega
    obtain ⟨k, rfl⟩ : ∃ k', k = k' + 1 := ⟨k - 1, by have := HF.out.1; omega⟩
    have HN := Lib.hid (fldF_map HF.out.2 (by rw [HLR.out]; omega) (by rw [HLR.out, HQ.out]; omega))
    have s2 := run_cut und_bytes size_byte (A := A) (n := n) (c := c) (j : Int) ((j : Int) + 2) j (j + 2) 2 (c - j) (by omega) (by omega) (by omega) (by omega) (by omega) rfl
    have s3 := run_cut und_bytes size_byte (A := A) (n := n) (c := c) ((j : Int) + 4) ((j : Int) + 4 + (q : Int)) (j + 4) (j + 4 + q) q (c - (j + 4)) (by omega) (by omega) (by omega) (by omega) (by omega) rfl
    have V2 := Lib.hid ((HB.out.stays hbr).cutS j (j + 2) (by omega) (by omega) (d := 2) (k := c - j) (by omega) rfl)
    have V3 := Lib.hid ((HB.out.stays hbr).cutS (j + 4) (j + 4 + q) (by omega) (by omega) (d := q) (k := c - (j + 4)) (by omega) rfl)
    go_wp2_with fail
    refine (refGet_any _ _ _ _ _ V1.out).mono ?_
    rintro e wx ⟨rfl, rfl⟩
    rw [E1.out]
    go_wp2_with fail
    have w2 : IntKind.i64.wrap ((j : Int) + 2) = (j : Int) + 2 := IntWalk.i64_in _ (by omega)
    have w4 : IntKind.i64.wrap ((j : Int) + 4) = (j : Int) + 4 := IntWalk.i64_in _ (by omega)
    have w5 : IntKind.i64.wrap ((j : Int) + 4 + (q : Int)) = (j : Int) + 4 + (q : Int) := IntWalk.i64_in _ (by omega)
    go_region_law (first
      | (refine step_append_items rfl _ _ 32 rfl i0 _ 32 Try.underlying32 hi hz0 hz1 hz2 rfl (by decide) rfl (HO.out.stays (RD.alloc RD.size _)) rfl (((ty : Nat) : Int), (l.drop (j + 4)).take q) rfl (rd_pair _ _ _ _) (by simp [encFld, Value.oneCell']) ((rd_join1 hD).stays ((Below.refl _ _).alloc (Nat.le_refl _) _)) (Off.fresh (Fresh.own hD) (fun k hk => by have := HO.out.lt k hk; simp; omega)) (by unfold maxLen; omega) (by omega) (by have := RD.size; simp; omega) ?_; intro A8 c8 w8 hown8 hg8 hb8)
      | (go_simp; go_at_call 44; (with_reducible refine (refGet_any _ _ _ _ _ (V2.out.stays (by go_grown))).mono ?_); rintro e wx ⟨rfl, rfl⟩; rw [E2.out])
      | (go_simp; go_at_call 35; have hLL := lists_made1 (E := 23) (V3.out.stays (w' := wr.drew) (by go_grown)); refine (refJoin_any _ _ _ _ _ hLL q (by simp; have := HLl.out; omega) (by omega)).mono ?_; rintro e wD ⟨AD, cD, rfl, hD, hbD⟩; have RD : Below wr.heap.size wr wD := below_via (by go_grown) hbD (by first | (simp; done) | (simp; omega))))
    all_goals
      have hB8 : Below w.heap.size w w8 := (hbr.trans ((RD.alloc RD.size _).mono hsr)).trans hb8
      have H8 := Lib.hid hown8
      clear hown8 hg8 hb8
      go_wp2
      go_roundw
      case rel =>
        refine ⟨k, j + 4 + q, mo + 1, c8, A8, _, by omega, by go_num, rfl, by omega, H8, ⟨by have := HF.out.1; omega, ?_⟩, hB8⟩
        have := HN.out
        rw [HQ.out, HT.out, List.drop_drop, List.drop_drop] at this
        rw [show j + 4 + q = j + (4 + q) by omega]
        exact this
      case measure => simp [intOf]; omega
theorem refFields_ok (l : List UInt8) (fs : List (Int × List UInt8)) (A : Option Addr) (n c : Nat) (w : World) (h : Bytes w A n c l) (hn : n ≤ 65535) (hf : fldF n l = some fs) :
    Calls Try.prog 40 #[.slice A n c] w fun e w' => ∃ A' m c', e = .returned (.tuple #[.slice A' m c', .int .i64 0]) ∧ FldL w' A' m c' fs ∧ Below w.heap.size w w' := by
  refine (refFields_any l A n c w h hn).mono ?_
  rintro e w' ⟨⟨fs', A', m, c', h1, rfl, h2⟩ | ⟨h1, _⟩, hb⟩
  · rw [hf] at h1; injection h1 with h1; subst h1; exact ⟨A', m, c', rfl, h2, hb⟩
  · rw [hf] at h1; cases h1
theorem refFields_bad (l : List UInt8) (A : Option Addr) (n c : Nat) (w : World) (h : Bytes w A n c l) (hn : n ≤ 65535) (hf : fldF n l = none) :
    Calls Try.prog 40 #[.slice A n c] w fun e w' => e = .returned (.tuple #[.slice none 0 0, .int .i64 1]) ∧ Below w.heap.size w w' := by
  refine (refFields_any l A n c w h hn).mono ?_
  rintro e w' ⟨⟨fs', A', m, c', h1, rfl, h2⟩ | ⟨h1, rfl⟩, hb⟩
  · rw [hf] at h1; cases h1
  · exact ⟨rfl, hb⟩
end Go.Proofs.Ytofadjcphaehcaa
