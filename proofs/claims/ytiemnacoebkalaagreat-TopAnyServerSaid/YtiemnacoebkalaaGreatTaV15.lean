import Derived.Deep.AppendLies
import Derived.Test.YtiemnacoebkalaaGreatTaV12
set_option linter.all false
set_option maxRecDepth 100000
set_option maxHeartbeats 4000000
namespace Go.Proofs.YtiemnacoebkalaaGreat
open Go.RowKit
theorem Rd.grown {w w' : World} {size : Nat} {A : Option Addr} {n c g : Nat} {xs : List Value} (h : Rd w size A n c xs) (hg : w.grownBy w' (some g)) (hne : ∀ x, A = some x -> x.block ≠ g) : Rd w' size A n c xs :=
 ⟨h.1, h.2.1, h.2.2.1, fun i u hu => by
  obtain ⟨b, off, e, hc⟩ := h.2.2.2 i u hu; refine ⟨b, off, e, ?_⟩; rw [hg.cell_far _ (World.block_lt_of_cell? w _ hc) (by have := hne _ e; simpa using this)]; exact hc⟩
theorem Bytes.grown {w w' : World} {A : Option Addr} {n c g : Nat} {l : List UInt8} (h : Bytes w A n c l) (hg : w.grownBy w' (some g)) (hne : ∀ x, A = some x -> x.block ≠ g) : Bytes w' A n c l := Rd.grown h hg hne

theorem first_any (w : World) : Calls Tryz.prog 148 #[] w fun e w' => e = .returned (.agg (stA firstS)) ∧ Below w.heap.size w w' := by
 go_enter Tryz.func148, Tryz.ntmps148
 go_wp2
 go_returns
 exact ⟨rfl, by go_grown⟩
theorem const_any (w : World) : Calls Tryz.prog 158 #[] w fun e w' => ∃ gk, e = .returned (.pointer (some ⟨gk, 0, none⟩)) ∧ w.heap.size <= gk ∧ Blk w' gk 195 (kTab.map wV).toArray ∧ Below w.heap.size w w' := by
 go_enter Tryz.func158, Tryz.ntmps158
 go_wp2; go_ret; exact ⟨_, rfl, Nat.le_refl _, Blk.new _ _ _, by go_grown⟩

theorem whole_any (s : St) (l : List UInt8) (g n cb : Nat) (Ab : Option Addr) (w : World) (hh : Blk w g 220 (stA s)) (hb : Bytes w Ab n cb l) (hne : n ≠ 0 -> ∀ x, Ab = some x -> x.block ≠ g) :
    Calls Tryz.prog 149 #[.pointer (some ⟨g, 0, none⟩), .slice Ab n cb] w fun e w' => ∃ A' c', e = .returned (.slice A' (n % 64) c') ∧ Bytes w' A' (n % 64) c' (l.drop (64 * (n / 64))) ∧ Blk w' g 220 (stA (blocksL s l (n / 64))) ∧ w.grownBy w' (some g) := by
 have cb1 := hb.le; have cb2 := hb.cap; have HL := qq hb.len; have HH := qq hh; have HB := qq hb; have HN := qq hne; have hgl := hh.lt; clear hh hb hne
 go_enter Tryz.func149, Tryz.ntmps149
 go_wp2_with fail
 refine (const_any _).mono ?_; rintro e w1 ⟨gk, rfl, hgk, hk, hb1⟩; have HK := qq hk; have HH1 := qs HH hb1; have HB1 := qs HB hb1; have HG1 : Hid (w.grownBy w1 (some g)) := grown_of_below hb1 _; have hs1 := hb1.size; have hgk2 : ¬ gk = g := by omega
 clear hk hb1 HH HB; go_wp2
 go_loopw [1] (fun b wr => ∃ (j cc : Nat) (AA : Option Addr), j <= n / 64 ∧ b = .slice AA (n - 64 * j) cc ∧ Hid (Bytes wr AA (n - 64 * j) cc (l.drop (64 * j))) ∧ Hid (n - 64 * j ≠ 0 -> ∀ x, AA = some x -> x.block ≠ g) ∧
     Hid (Blk wr g 220 (stA (blocksL s l j))) ∧ Hid (Blk wr gk 195 (kTab.map wV).toArray) ∧ Hid (w.grownBy wr (some g))) (fun b _ => match b with | .slice _ m _ => m | _ => 0)
 case atStart => exact ⟨0, cb, Ab, Nat.zero_le _, rfl, by simpa [Hid] using HB1.out, HN, HH1, HK, HG1⟩
 case round =>
  clear HB1 HN HH1 HK HG1; obtain ⟨j, cc, AA, hj, rfl, HB, HN, HH, HK, HG⟩ := hrel; have cb1 := HB.out.le; have cb2 := HB.out.cap; obtain ⟨m, hm⟩ : ∃ m, n - 64 * j = m := ⟨_, rfl⟩; rw [hm] at HB cb1 ⊢
  by_cases hm64 : 64 <= m
  · have hmi : (64 : Int) <= (m : Int) := by omega
    obtain ⟨b, off, rfl, hc⟩ := HB.out.at_ (i := 0) (by omega); have hbg : b ≠ g := HN.out (by omega) _ rfl; have hcut := HB.out.cut 0 64 (by omega) (by omega); rw [if_neg (by omega)] at hcut; simp only [Option.map_some, add_off, Nat.add_zero, Nat.sub_zero, List.drop_zero] at hcut; have HC := qq hcut; have hcut2 := HB.out.cut 64 m (by omega) (by omega); have hk64 : m - 64 = n - 64 * (j + 1) := by omega
    rw [List.drop_drop, show 64 * j + 64 = 64 * (j + 1) by omega, List.take_of_length_le (by rw [List.length_drop, HL.out]; omega)] at hcut2; have HC2 := qq hcut2; clear hcut hcut2 hc
    go_wp2_with fail
    refine (blk_any _ _ _ _ _ _ _ HH.out HK.out HC.out).mono ?_; rintro e w2 ⟨rfl, hv2, hg2⟩; have HH2 := qq hv2; have HK2 := qq (HK.out.grown hg2 (by simpa using hgk2)); have HC3 := qq (HC2.out.grown hg2 (by
     intro x hx
     split at hx
     · cases hx; exact hbg
     · simp only [Option.map_some, add_off, Option.some.injEq] at hx; subst hx; exact hbg))
    have HG2 : Hid (w.grownBy w2 (some g)) := HG.out.trans hg2; clear hv2 hg2 HC HC2 HH HK HG; go_wp2
    go_roundw
    case rel =>
     refine ⟨j + 1, cc - 64, _, by omega, rfl, ?_, ?_, HH2, HK2, HG2⟩
     · rw [hk64] at HC3
       simpa [add_off] using HC3
     · intro _ x hx
       split at hx
       · cases hx; exact hbg
       · simp only [Option.some.injEq] at hx; subst hx; exact hbg
    case measure => simp; omega
  · have hmi : ¬ (64 : Int) <= (m : Int) := by omega
    go_wp2; go_ret; have hj2 : j = n / 64 := by omega
    have hm2 : m = n % 64 := by omega
    subst hj2 hm2; exact ⟨AA, cc, rfl, HB.out, HH.out, HG.out⟩
end Go.Proofs.YtiemnacoebkalaaGreat
