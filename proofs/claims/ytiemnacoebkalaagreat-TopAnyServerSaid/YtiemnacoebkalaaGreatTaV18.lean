import Derived.StillTactics
import Derived.Deep.RegionLaw
import Derived.Deep.DeepCutAuto
import Derived.Test.YtiemnacoebkalaaGreatTaV02
import Derived.Test.YtiemnacoebkalaaGreatTaV10
set_option linter.all false
set_option maxRecDepth 100000
set_option maxHeartbeats 4000000
namespace Go.Proofs.YtiemnacoebkalaaGreat
open Go.RowKit
abbrev FldsAt (w : World) (B : Nat) (A : Option Addr) (n c : Nat) (fs : List (Int × List UInt8)) : Prop := OwnItems 2 encFld Prod.snd 97 w B A n c fs
theorem fields_any (l : List UInt8) (A : Option Addr) (n c : Nat) (w : World) (h : Bytes w A n c l) (hn : n <= 65535) :
    Calls Tryz.prog 142 #[.slice A n c] w fun e w' => ((∃ fs A' m c', fldF n l = some fs ∧ e = .returned (.tuple #[.slice A' m c', .int .i64 0]) ∧ FldL w' A' m c' fs) ∨
      (fldF n l = none ∧ e = .returned (.tuple #[.slice none 0 0, .int .i64 1]))) ∧ Below w.heap.size w w' := by
 obtain ⟨i0, hi, hz0, hz1, hz2⟩ := info_parts infoFld; obtain ⟨R, hR⟩ : ∃ R, fldF n l = R := ⟨_, rfl⟩; rw [hR]; have HB := qq h; have HR := qq hR; have hcap0 := h.cap; have hle0 := h.le; clear h hR; have hni : ¬ (n : Int) > 65535 := by omega
 go_enter Tryz.func142, Tryz.ntmps142
 go_wp2
 go_loopw [0, 4, 5] (fun b o _ wr => ∃ (k m cc mo co : Nat) (AA AO : Option Addr) (rest : List UInt8) (fs : List (Int × List UInt8)), m <= 65535 ∧ b = .slice AA m cc ∧ o = .slice AO mo co ∧ 4 * mo + m <= n ∧
     Hid (Bytes w AA m cc rest) ∧ Hid (FldsAt wr w.heap.size AO mo co fs) ∧ Hid (m <= k ∧ (fldF k rest).map (fs ++ ·) = R) ∧ Below w.heap.size w wr) (fun b _ _ _ => slLen b)
 case atStart => exact ⟨n, n, c, 0, 0, A, none, l, [], hn, rfl, rfl, by omega, HB, OwnItems.nil _ _, ⟨Nat.le_refl _, by rw [HR.out]; cases R <;> simp⟩, by go_grown⟩
 case round =>
  obtain ⟨k, m, cc, mo, co, AA, AO, rest, fs, hm5, rfl, rfl, hmo, HX, HO, HF, hbr⟩ := hrel; have hsr := hbr.size; have q1 := HX.out.le; have q2 := HX.out.cap; have q3 := HO.out.cap; have q4 := HO.out.le
  by_cases hm0 : m = 0
  · subst hm0; go_wp2
    go_returns
    have e1 : rest = [] := List.eq_nil_of_length_eq_zero HX.out.len; have e2 := HF.out.2; rw [e1, fldF_nil] at e2; exact ⟨.inl ⟨fs, AO, mo, co, by rw [<- e2]; simp, rfl, HO.out.flds⟩, hbr⟩
  have hmp : (0 : Int) < (m : Int) := by omega
  have hlr := HX.out.len
  by_cases hm4 : m < 4
  · have hm4i : (m : Int) < 4 := by omega
    have HN := qq (fldF_short HF.out.2 (by rw [hlr]; exact HF.out.1) (by omega) (.inl (by omega))); clear hlr; go_wp2
    go_returns
    exact ⟨.inr ⟨HN.out, rfl⟩, by first | exact hbr | go_grown⟩
  have hm4i : ¬ (m : Int) < 4 := by omega
  have h2 := two_lt (rest.drop 2) (by simp; omega); have h3 := two_lt rest (by omega); obtain ⟨q, hq⟩ : ∃ q, two (rest.drop 2) = q := ⟨_, rfl⟩; obtain ⟨ty, hty⟩ : ∃ ty, two rest = ty := ⟨_, rfl⟩; have s1 := run_cut und_bytes size_byte (A := AA) (n := m) (c := cc) 2 4 2 4 2 (cc - 2) rfl rfl (by omega) (by omega) rfl rfl; have V1 := qq ((HX.out.stays hbr).cutS 2 4 (by omega) (by omega) (d := 2) (k := cc - 2) rfl rfl); have E1 : Hid (be64 ((rest.drop 2).take 2) 2 = q) := hq; have E2 : Hid (be64 (rest.take 2) 2 = ty) := hty; have HQ := qq hq; have HT := qq hty; have HLR := qq hlr; rw [hq] at h2; rw [hty] at h3; clear hq hty hlr; have wq : IntKind.i64.wrap (q : Int) = (q : Int) := IntWalk.i64_in _ (by omega); have wt : IntKind.i64.wrap (ty : Int) = (ty : Int) := IntWalk.i64_in _ (by omega)
  by_cases hqm : m - 4 < q
  · have hqi : (m : Int) - 4 < (q : Int) := by omega
    have HN := qq (fldF_short HF.out.2 (by rw [HLR.out]; exact HF.out.1) (by rw [HLR.out]; omega) (.inr (by rw [HLR.out, HQ.out]; omega)))
    go_wp2_with fail
    refine (get_any _ _ _ _ _ V1.out).mono ?_; rintro e wx ⟨rfl, rfl⟩; rw [E1.out]; go_wp2
    go_returns
    exact ⟨.inr ⟨HN.out, rfl⟩, by first | exact hbr | go_grown⟩
  have hqi : ¬ (m : Int) - 4 < (q : Int) := by omega
  obtain ⟨k, rfl⟩ : ∃ k', k = k' + 1 := ⟨k - 1, by have := HF.out.1; omega⟩; have HN := qq (fldF_map HF.out.2 (by rw [HLR.out]; omega) (by rw [HLR.out, HQ.out]; omega)); have s2 := run_cut und_bytes size_byte (A := AA) (n := m) (c := cc) 4 (4 + (q : Int)) 4 (4 + q) q (cc - 4) rfl (by omega) (by omega) (by omega) (by omega) rfl; have s3 := run_cutFrom und_bytes size_byte (A := AA) (n := m) (c := cc) (4 + (q : Int)) (4 + q) (m - 4 - q) (cc - 4 - q) (by omega) (by omega) (by omega) (by omega); have V2 := qq ((HX.out.stays hbr).cutTo 2 (by omega)); have V3 := qq ((HX.out.stays hbr).cutS 4 (4 + q) (by omega) (by omega) (d := q) (k := cc - 4) (by omega) rfl); have V4 := qq (HX.out.cutFrom (4 + q) (by omega) (d := m - 4 - q) (k := cc - 4 - q) (by omega) (by omega)); have hm4' : m <= cc := q1; have p2 : (2 : Int) <= (cc : Int) := by omega
  have w4 : IntKind.i64.wrap (4 + (q : Int)) = 4 + (q : Int) := IntWalk.i64_in _ (by omega)
  go_wp2_with fail
  refine (get_any _ _ _ _ _ V1.out).mono ?_; rintro e wx ⟨rfl, rfl⟩; rw [E1.out]
  go_wp2_with fail
  go_region_law (first
   | (refine step_append_items rfl _ _ 49 rfl i0 _ 32 Tryz.underlying49 hi hz0 hz1 hz2 rfl (by decide) rfl (HO.out.stays (RD.alloc RD.size _)) rfl (((ty : Nat) : Int), (rest.drop 4).take q) rfl (rd_pair _ _ _ _) (by simp [encFld, Value.oneCell']) ((show Bytes _ _ _ _ _ from own_rd hD).stays ((Below.refl _ _).alloc (Nat.le_refl _) _)) (Off.fresh (Fresh.own hD) (fun k hk => by have := HO.out.lt k hk; simpa using this)) (by unfold maxLen; omega) (by omega) (by have := RD.size; simp; omega) ?_; intro A8 c8 w8 hown8 hg8 hb8)
   | (go_simp; go_at_call 71; (with_reducible refine (get_any _ _ _ _ _ (V2.out.stays (by go_grown))).mono ?_); rintro e wx ⟨rfl, rfl⟩; rw [E2.out])
   | (go_simp; go_at_call 86; (with_reducible refine (clone_any _ _ _ _ _ (V3.out.stays (by go_grown)) (by omega)).mono ?_); rintro e wD ⟨AD, cD, rfl, hD, hbD⟩; have RD : Below wr.heap.size wr wD := below_via (by go_grown) hbD (by first | (simp; done) | (simp; omega))))
  all_goals
   have hB8 : Below w.heap.size w w8 := (hbr.trans ((RD.alloc RD.size _).mono hsr)).trans hb8; have H8 := qq hown8; clear hown8 hg8 hb8; go_wp2
   go_roundw
   case rel =>
    refine ⟨k, m - 4 - q, cc - 4 - q, mo + 1, c8, _, A8, _, _, by omega, rfl, rfl, by omega, V4, H8, ⟨by have := HF.out.1; omega, ?_⟩, hB8⟩; have := HN.out; rw [HQ.out, HT.out] at this; exact this
   case measure => simp [slLen]; omega
theorem fields_ok (l : List UInt8) (fs : List (Int × List UInt8)) (A : Option Addr) (n c : Nat) (w : World) (h : Bytes w A n c l) (hn : n <= 65535) (hf : fldF n l = some fs) :
    Calls Tryz.prog 142 #[.slice A n c] w fun e w' => ∃ A' m c', e = .returned (.tuple #[.slice A' m c', .int .i64 0]) ∧ FldL w' A' m c' fs ∧ Below w.heap.size w w' := by
 refine (fields_any l A n c w h hn).mono ?_; rintro e w' ⟨⟨fs', A', m, c', h1, rfl, h2⟩ | ⟨h1, _⟩, hb⟩
 · rw [hf] at h1; injection h1 with h1; subst h1; exact ⟨A', m, c', rfl, h2, hb⟩
 · rw [hf] at h1; cases h1
end Go.Proofs.YtiemnacoebkalaaGreat
