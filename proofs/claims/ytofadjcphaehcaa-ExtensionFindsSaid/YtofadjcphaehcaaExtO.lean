/- sectimeworld.AllPadded. -/
import Derived.Test.YtofadjcphaehcaaExtN
namespace Go.Proofs.Ytofadjcphaehcaa
open Go.RowKit

theorem pad_at (l : List (Int × List UInt8)) (k : Nat) (h : k < l.length) : (l.take (k + 1)).map padX = (l.take k).map padX ++ [(fldT l k, (padX (fldT l k, fldD l k)).2)] := by
  rw [take_fld l k h, List.map_append]; rfl
set_option maxRecDepth 100000 in
set_option maxHeartbeats 4000000 in
theorem allPadded_any (A : Option Addr) (n c : Nat) (fs : List (Int × List UInt8)) (w : World) (hv : FldL w A n c fs) (hf : ∀ k, (fldD fs k).length ≤ 100000) (hn : n ≤ 1000) :
    Calls Try.prog 32 #[.slice A n c] w fun e w' => ∃ A' m c', e = .returned (.slice A' m c') ∧ FldL w' A' m c' (fs.map padX) ∧ Below w.heap.size w w' := by
  obtain ⟨i0, hi, hz0, hz1, hz2⟩ := info_parts infoFld
  have hcap := hv.cap
  have hle := hv.le
  have HL := Lib.hid hv.len
  have HV := Lib.hid hv
  have HF := Lib.hid hf
  clear hv hf
  go_enter Try.func32, Try.ntmps32
  go_wp2_with fail
  go_loopw [3, 4] (fun s i wr => ∃ (k co : Nat) (AO : Option Addr), k ≤ n ∧ i = .int .i64 k ∧ s = .slice AO k co ∧ Hid (FldsA wr w.heap.size AO k co ((fs.take k).map padX)) ∧ Below w.heap.size w wr) (fun _ i _ => n - (intOf i).toNat)
  case atStart => exact ⟨0, 0, none, Nat.zero_le _, rfl, rfl, OwnItems.nil _ _, Below.refl _ _⟩
  case round =>
    obtain ⟨k, co, AO, hk, rfl, rfl, HO, hbr⟩ := hrel
    have RW := Lib.hid hbr
    have hz_wr := hbr.size
    have kco := HO.out.le
    have coc := HO.out.cap
    by_cases hkn : k < n
    ·
      have hki : (k : Int) < (n : Int) := by omega
      obtain ⟨bb, off, A', n', c', rfl, hc0, hc1, hy⟩ := (HV.out.stays hbr).at_ hkn
      have HY := Lib.hid hy
      have hyn : n' ≤ 100000 := by rw [← hy.len]; exact HF.out k
      have HN := Lib.hid (pad_at fs k (by rw [HL.out]; exact hkn))
      obtain ⟨t, ht⟩ : ∃ t, fldT fs k = t := ⟨_, rfl⟩
      obtain ⟨d, hd⟩ : ∃ d, fldD fs k = d := ⟨_, rfl⟩
      rw [ht] at hc0 HN
      rw [hd] at HY HN
      clear hy ht hd hbr
      go_wp2_with fail
      refine (padded_any t A' n' c' d _ HY.out (by omega)).mono ?_
      rintro e y1 ⟨Ap, m, cp, rfl, hD, hF, hb⟩
      have hbx : Below wr.heap.size wr y1 := below_via (by go_grown) hb (by first | (simp; done) | (simp; omega))
      have HO0 := HO
      have HO := Lib.hid (HO.out.stays hbx)
      have HD := Lib.hid hD
      have HOF : Hid (Off Ap m (Value.slice AO k co).ownBlock) := Off.fresh hF HO0.out.lt
      have R2 := Lib.hid (RW.out.trans (hbx.mono hz_wr))
      have hz_y1 := R2.out.size
      clear hb hbx hD RW hz_wr
      clear hF HO0 hc0 hc1
      obtain ⟨d2, hd2⟩ : ∃ d2, (padX (t, d)).2 = d2 := ⟨_, rfl⟩
      rw [hd2] at HD HN
      clear hd2
      go_wp2_with (at_builtin; refine wpList_append_items rfl _ _ 32 rfl i0 _ 32 Try.underlying32 hi hz0 hz1 hz2 rfl (by decide) rfl (HO.out.stays (Below.alloc (Below.refl y1.heap.size y1) (Nat.le_refl _) (.cells #[.int .i64 t, .slice Ap m cp] 38))) rfl (t, d2) (A1 := Ap) (n1 := m) (c1 := cp) (by simp [encFld]) (rd_pair _ _ _ _) (by simp [encFld, Value.oneCell']) (HD.out.stays (Below.alloc (Below.refl y1.heap.size y1) (Nat.le_refl _) (.cells #[.int .i64 t, .slice Ap m cp] 38))) HOF.out (by unfold maxLen; omega) (by omega) (by simp; omega) ?_; intro A8 c8 w8 hown8 hg8 hb8; have HO8 := Lib.hid hown8; have HB8 := Lib.hid hb8; clear hown8 hg8 hb8)
      have R8 := Lib.hid (R2.out.trans (((Below.refl w.heap.size y1).alloc hz_y1 _).trans HB8.out))
      clear HB8
      go_wp2
      go_roundw
      case rel => exact ⟨k + 1, c8, A8, by omega, by go_num, rfl, by rw [Hid, HN.out]; exact HO8.out, R8.out⟩
      case measure => simp [intOf]; omega
    · obtain rfl : k = n := by omega
      have HE : Hid ((fs.take k).map padX = fs.map padX) := by rw [Hid, List.take_of_length_le (by rw [HL.out]; exact Nat.le_refl _)]
      go_wp2
      go_ret
      exact ⟨AO, k, co, rfl, by rw [← HE.out]; exact HO.out.flds, RW.out⟩
end Go.Proofs.Ytofadjcphaehcaa
