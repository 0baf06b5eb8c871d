import Derived.Deep.RegionWith
import Derived.Deep.DeepCutAuto
import Derived.Test.YtiemnacoebkalaaGreatTaV01
set_option linter.all false
set_option maxRecDepth 100000
set_option maxHeartbeats 4000000
namespace Go.Proofs.YtiemnacoebkalaaGreat
open Go.RowKit
theorem Bytes.cut0c {w : World} {A : Option Addr} {n c : Nat} {l : List UInt8} (h : Bytes w A n c l) (m : Nat) (hm : m <= n) : Bytes w A m c (l.take m) := by
 refine ⟨by have := h.len; simp; omega, Nat.le_trans hm h.le, h.2.2.1, fun i u hu => ?_⟩; rw [List.map_take, List.getElem?_take] at hu
 split at hu
 · exact h.2.2.2 i u hu
 · cases hu
theorem cut_ok (l : List UInt8) (A : Option Addr) (n c k : Nat) (w : World) (h : Bytes w A n c l) (hk : k <= n) (hn : n <= 100000) :
    Calls Tryz.prog 70 #[.slice A n c, .int .i64 k] w fun e w' => ∃ A1 c1 A2 c2, e = .returned (.tuple #[.slice A1 k c1, .slice A2 (n - k) c2, .bool true]) ∧ Bytes w' A1 k c1 (l.take k) ∧ Bytes w' A2 (n - k) c2 (l.drop k) ∧ Below w.heap.size w w' := by
 have q1 := h.le; have q2 := h.cap; have hki : ¬ (k : Int) > (n : Int) := by omega
 have HL := qq h.len; have HH := qq (h.cut0c k hk); have ht := h.cut k n hk (Nat.le_refl _); rw [List.take_of_length_le (by rw [List.length_drop, HL.out]; exact Nat.le_refl _)] at ht; have R : Hid (Below w.heap.size w w) := Below.refl _ _; have hsR := R.out.size; clear h
 by_cases hck : c = k
 all_goals
  first
   | (rw [if_pos hck, show c - k = 0 by omega] at ht
      rw [hck] at HH)
   | rw [if_neg hck] at ht
  have HT := qq ht; clear ht
  go_enter Tryz.func70, Tryz.ntmps70
  go_upto_region 3 with fail
  go_region_with (first
   | (go_at_call 86; refine (clone_any _ _ _ _ _ (HH.out.stays (by go_grown)) (by omega)).mono ?_; rintro e wn ⟨A1, c1, rfl, hv, hb⟩; have V1 := qq (show Bytes _ _ _ _ _ from own_rd hv); have HT := qq (HT.out.stays (below_via (by go_grown) hb (by first | (simp; done) | (simp; omega)))); have R := qq (R.out.trans ((below_via (by go_grown) hb (by first | (simp; done) | (simp; omega))).mono hsR)); have hsR := R.out.size; clear hv hb)
   | (go_at_call 86; refine (clone_any _ _ _ _ _ (HT.out.stays (by go_grown)) (by omega)).mono ?_; rintro e wn ⟨A2, c2, rfl, hv, hb⟩; have V2 := qq (show Bytes _ _ _ _ _ from own_rd hv); have V1 := qq (V1.out.stays (below_via (by go_grown) hb (by first | (simp; done) | (simp; omega)))); have R := qq (R.out.trans ((below_via (by go_grown) hb (by first | (simp; done) | (simp; omega))).mono hsR)); have hsR := R.out.size; clear hv hb))
  all_goals
   go_wp2
   go_returns
   exact ⟨_, _, _, _, rfl, V1.out, V2.out, R.out⟩
def padZ (m k : Nat) : Nat := (k - m % k) % k
theorem padZ_at (m k z : Nat) (hk : 0 < k) (hz : z <= padZ m k) : ((m + z) % k = 0 ↔ z = padZ m k) := by
 have h1 := Nat.mod_lt m hk; have h2 := Nat.div_add_mod m k; unfold padZ at *
 by_cases h0 : m % k = 0
 · rw [h0, Nat.sub_zero, Nat.mod_self] at hz ⊢; have : z = 0 := by omega
   subst this; simp [h0]
 · rw [Nat.mod_eq_of_lt (show k - m % k < k by omega)] at hz ⊢
   by_cases he : z = k - m % k
   · subst he; refine ⟨fun _ => rfl, fun _ => ?_⟩; rw [Nat.add_mod, Nat.mod_eq_of_lt (show k - m % k < k by omega), show m % k + (k - m % k) = k by omega, Nat.mod_self]
   · refine ⟨fun h => ?_, fun h => absurd h he⟩; rw [Nat.add_mod, Nat.mod_eq_of_lt (show z < k by omega), Nat.mod_eq_of_lt (show m % k + z < k by omega)] at h; omega
theorem padZ_lt (m k : Nat) (hk : 0 < k) : padZ m k < k := Nat.mod_lt _ hk
def padB (l : List UInt8) (k : Int) : List UInt8 := if 1 <= k ∧ k <= 64 then l ++ List.replicate (padZ l.length k.toNat) 0 else l
theorem pad_any (l : List UInt8) (A : Option Addr) (n c : Nat) (k : Int) (w : World) (h : Bytes w A n c l) (hn : n <= 100000) :
    Calls Tryz.prog 131 #[.slice A n c, .int .i64 k] w fun e w' => ∃ A' m c', e = .returned (.slice A' m c') ∧ Bytes w' A' m c' (padB l k) ∧ Below w.heap.size w w' := by
 obtain ⟨i0, hi, hz0, hz1, hz2⟩ := info_parts infoByteA; have HL := qq h.len; have HB := qq h; clear h
 by_cases hk : 1 <= k ∧ k <= 64
 · obtain ⟨hk1, hk2⟩ := hk; obtain ⟨m, rfl⟩ := Int.eq_ofNat_of_zero_le (show 0 <= k by omega); have HP : Hid (padB l m = l ++ List.replicate (padZ n m) 0) := by
    unfold Hid padB; rw [if_pos ⟨hk1, hk2⟩, HL.out]
    rfl
   have hzl := padZ_lt n m (by omega)
   go_enter Tryz.func131, Tryz.ntmps131
   go_wp2_with fail
   refine (clone_any _ _ _ _ _ HB.out (by omega)).mono ?_; rintro e w1 ⟨A1, c1, rfl, hv, hb⟩; have HO := qq hv; have R1 := hb; have hs1 := hb.size; clear hv hb; go_wp2
   go_loopw [5] (fun o wr => ∃ (z cc : Nat) (AA : Option Addr), z <= padZ n m ∧ o = .slice AA (n + z) cc ∧ Hid (wr.ownsRow w.heap.size 5 1 (.slice AA (n + z) cc) (n + z) ((l ++ List.replicate z 0).map byteV)) ∧ Below w.heap.size w wr) (fun o _ => match o with | .slice _ q _ => n + padZ n m - q | _ => 0)
   case atStart => exact ⟨0, c1, A1, Nat.zero_le _, rfl, by simpa [Hid] using HO.out, R1⟩
   case round =>
    clear HO R1; obtain ⟨z, cc, AA, hz, rfl, HO, hbr⟩ := hrel; have hsr := hbr.size; have hpz := padZ_at n m z (by omega) hz; have htm : ((n : Int) + (z : Int)).tmod (m : Int) = (((n + z) % m : Nat) : Int) := by
     rw [Int.tmod_eq_emod_of_nonneg (by omega), Int.natCast_emod, Int.natCast_add]
    have hem : ((n : Int) + (z : Int)) % (m : Int) = (((n + z) % m : Nat) : Int) := by rw [Int.natCast_emod, Int.natCast_add]
    have hm0 : (m == 0) = false := by simp; omega
    have hm0' : ((m : Int) == 0) = false := by simp; omega
    by_cases hze : z = padZ n m
    · have h0 := hpz.2 hze; rw [h0] at htm hem; clear hpz; subst hze; have V1 : Hid (Bytes wr AA (n + padZ n m) cc (l ++ List.replicate (padZ n m) 0)) := own_rd HO.out; go_wp2; go_ret; exact ⟨_, _, _, rfl, by rw [HP.out]; exact V1.out, hbr⟩
    · have hr0 : ¬ (n + z) % m = 0 := fun e => hze (hpz.1 e)
      clear hpz
      generalize (n + z) % m = r at htm hem hr0
      have h0 : ((r : Int) == 0) = false := by simpa using hr0
      have h1 : ¬ (r : Int) = 0 := by omega
      have HOA := qq (own_alloc HO.out (.cells #[.int .u8 0] 5))
      go_wp2_with (at_builtin; refine wpList_append_rd rfl _ _ 27 rfl i0 (.int .u8 0) 1 Tryz.underlying27 hi hz0 hz1 hz2 rfl (by decide) rfl HOA.out rfl (rd_one _ _ _) (oneCell_bytes [0]) ?c1 ?c2 ?c3 ?_)
      case c1 => unfold maxLen; omega
      case c2 => omega
      case c3 => first | omega | (simp; omega)
      intro A4 c4 w4 hown4 hg4 hb4; have hB4 : Below w.heap.size w w4 := (hbr.alloc hsr _).trans hb4; have H4 := qq hown4; clear hown4 hg4 hb4 HO HOA; go_wp2
      go_roundw
      case rel =>
       have h4 := H4.out; simp [byteV] at h4; exact ⟨z + 1, c4, A4, by omega, rfl, by simp [Hid, byteV, List.replicate_succ']; exact h4, hB4⟩
      case measure => simp; omega
 · have HP : Hid (padB l k = l) := by
     unfold Hid padB; rw [if_neg hk]
   by_cases hk1 : k < 1
   all_goals
    first
     | (have h2 : k > 64 := by omega
        go_enter Tryz.func131, Tryz.ntmps131)
     | go_enter Tryz.func131, Tryz.ntmps131
    go_wp2_with fail
    refine (clone_any _ _ _ _ _ HB.out (by omega)).mono ?_; rintro e w1 ⟨A1, c1, rfl, hv, hb⟩; have V1 : Hid (Bytes w1 A1 n c1 l) := own_rd hv; clear hv; go_wp2; go_ret; exact ⟨_, _, _, rfl, by rw [HP.out]; exact V1.out, hb⟩
end Go.Proofs.YtiemnacoebkalaaGreat
