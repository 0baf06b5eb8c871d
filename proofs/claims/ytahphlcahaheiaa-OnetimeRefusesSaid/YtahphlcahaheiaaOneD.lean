/- onetime.Recover and its reference. -/
import Derived.Test.YtahphlcahaheiaaOneC
import Derived.Deep.RegionHeld3
namespace Go.Proofs.Ytahphlcahaheiaa
open Go.RowKit

/-- All elements that Recover looks at have their length. -/
def goodL (ls : List (List UInt8)) : Prop := ∀ j, j < 35 → (listAt ls j).length = 16
set_option maxRecDepth 100000 in
set_option maxHeartbeats 4000000 in
theorem recover_any (d : List UInt8) (ls : List (List UInt8)) (A : Option Addr) (c : Nat) (A2 : Option Addr) (c2 : Nat) (w : World) (hd : Bytes w A 16 c d) (hl : Lists w A2 35 c2 ls) :
    Calls Try.prog 24 #[.slice A 16 c, .slice A2 35 c2] w fun e w' => ((goodL ls ∧ ∃ A' c', e = .returned (.tuple #[.slice A' 16 c', .int .i64 0]) ∧ Bytes w' A' 16 c' (recoverL d ls) ∧ Fresh w.heap.size A') ∨
      (¬ goodL ls ∧ e = .returned (.tuple #[.slice none 0 0, .int .i64 3]))) ∧ Below w.heap.size w w' := by
  obtain ⟨i0, hi, hz0, hz1, hz2⟩ := info_parts infoByteA
  have DB := Lib.hid hd
  have LD := Lib.hid hd.len
  have LB := Lib.hid hl
  have hlc := hl.le
  have hlc2 := hl.cap
  clear hd hl
  have hmk := make_ends
  go_enter Try.func24, Try.ntmps24
  go_wp2_with fail
  refine (digits_any _ _ _ _ DB.out).mono ?_
  rintro e w1 ⟨Ad, cd, rfl, hr, hb⟩
  have R1 := Lib.hid hb
  have hs1 := hb.size
  have LB1 := Lib.hid (LB.out.stays hb)
  have hcd := hr.2.1
  have hcd2 : cd ≤ 9223372036854775807 := by have := hr.2.2.1; unfold maxLen at this; omega
  obtain ⟨b, off, rfl, hc⟩ := row35 hr LD.out
  have HC := Lib.hid hc
  clear hb hr hc DB LB
  go_wp2
  clear hmk
  go_loopw [8, 9, 10, 27] (fun o _ _ i' wr => ∃ (j m cc : Nat) (AA : Option Addr), j ≤ 35 ∧ i' = .int .i64 j ∧ o = .slice AA m cc ∧ Hid (m = 16 * j) ∧ Hid (∀ q, q < j → (listAt ls q).length = 16) ∧ Hid (wr.ownsRow w1.heap.size 5 1 (.slice AA m cc) m ((endsL ls (fun j => 15 - digN d j) j).map byteV)) ∧ Below w1.heap.size w1 wr) (fun _ _ _ i' _ => 35 - (intOf i').toNat)
  case atStart => exact ⟨0, 0, _, _, by omega, rfl, rfl, rfl, fun q h => by omega, own_ends _, by go_grown⟩
  case round =>
    obtain ⟨j, m, cc, AA, hj, rfl, rfl, hm, HG, HO, hbr⟩ := hrel
    have hsr := hbr.size
    by_cases hj35 : j < 35
    · have hji : (j : Int) < 35 := by omega
      have hcj := cell_stays hbr (HC.out j hj35)
      have HCJ := Lib.hid (HC.out j hj35)
      obtain ⟨b2, off2, A', n', c', rfl, hlj, hy⟩ := LB1.out.at_ hj35
      have HLJ := Lib.hid hlj
      replace hlj := cell_stays hbr hlj
      have HY := Lib.hid (hy.stays hbr)
      have HYL := Lib.hid hy.len
      have hdl := digN_le d j
      have HE : Hid (endsL ls (fun j => 15 - digN d j) (j + 1) = endsL ls (fun j => 15 - digN d j) j ++ chainL (listAt ls j) (15 - digN d j)) := rfl
      have hyle := hy.le
      have hycap := hy.cap
      clear hy
      generalize digN d j = dd at *
      by_cases hn : n' = 16
      · subst hn
        go_wp2_with fail
        refine (chain16i _ _ _ (15 - (dd : Int)) (15 - dd) _ HY.out (by omega) (by omega)).mono ?_
        rintro e w3 ⟨A3, c3, rfl, hv, hf, hb⟩
        have V3 := Lib.hid hv
        have HO3 := Lib.hid (own_below HO.out hb)
        have R3 : Below w1.heap.size w1 w3 := hbr.trans (hb.mono hsr)
        have hs3 := R3.size
        clear hv hf hb hcj hlj
        go_wp2_with (at_builtin; refine wpList_append_rd rfl _ _ 22 rfl i0 (.int .u8 0) 1 Try.underlying22 hi hz0 hz1 hz2 rfl (by decide) rfl HO3.out rfl V3.out (oneCell_bytes _) ?c1 ?c2 ?c3 ?_)
        case c1 => have := hm.out; unfold maxLen; omega
        case c2 => have := hm.out; omega
        case c3 => omega
        intro A8 c8 w8 hown8 hg8 hb8
        have H8 := Lib.hid hown8
        have hB8 := R3.trans hb8
        clear hown8 hg8 hb8
        go_wp2
        go_roundw
        case rel =>
          refine ⟨j + 1, m + 16, c8, A8, by omega, by go_num, rfl, by have := hm.out; unfold Hid; omega, fun q hq => ?_, ?_, hB8⟩
          · by_cases e : q = j
            · rw [e]; exact HYL.out
            · exact HG.out q (by omega)
          · unfold Hid
            rw [HE.out, List.map_append]
            exact H8.out
        case measure => simp [intOf]; omega
      · have hni : ((n' : Int) == 16) = false := by simp; omega
        have hni2 : ((n' : Int) != 16) = true := by simp; omega
        have HN := Lib.hid hn
        clear hn
        go_wp2
        go_returns
        exact ⟨.inr ⟨fun h => HN.out (by rw [← HYL.out]; exact h j hj35), rfl⟩, R1.out.trans (by first | exact hbr.mono hs1 | exact (show Below w1.heap.size w1 _ by go_grown).mono hs1)⟩
    · obtain rfl : j = 35 := by omega
      have hr : Bytes wr AA m cc (endsL ls (fun j => 15 - digN d j) 35) := own_rd HO.out
      have HR := Lib.hid hr
      clear hr
      go_wp2_with fail
      refine (short_new _ _ _ _ _ HR.out).mono ?_
      rintro e w4 ⟨A4, rfl, hv, hf, hb⟩
      have V4 : Hid (Bytes w4 A4 16 _ (recoverL d ls)) := hv
      have F4 := Lib.hid (hf.more (B' := w.heap.size) (by omega))
      have R4 := R1.out.trans ((hbr.trans (hb.mono hsr)).mono hs1)
      clear hv hf hb
      go_wp2
      go_returns
      exact ⟨.inl ⟨fun q hq => HG.out q hq, _, _, rfl, V4.out, F4.out⟩, R4⟩
theorem recover_ok {d : List UInt8} {ls : List (List UInt8)} {A : Option Addr} {c : Nat} {A2 : Option Addr} {c2 : Nat} {w : World} (hd : Bytes w A 16 c d) (hl : Lists w A2 35 c2 ls) (hg : goodL ls) :
    Calls Try.prog 24 #[.slice A 16 c, .slice A2 35 c2] w fun e w' => ∃ A' c', e = .returned (.tuple #[.slice A' 16 c', .int .i64 0]) ∧ Bytes w' A' 16 c' (recoverL d ls) ∧ Below w.heap.size w w' := by
  refine (recover_any d ls A c A2 c2 w hd hl).mono ?_
  rintro e w' ⟨⟨_, A', c', rfl, hv, _⟩ | ⟨h, _⟩, hb⟩
  · exact ⟨A', c', rfl, hv, hb⟩
  · exact absurd hg h
theorem recover_new {d : List UInt8} {ls : List (List UInt8)} {A : Option Addr} {c : Nat} {A2 : Option Addr} {c2 : Nat} {w : World} (hd : Bytes w A 16 c d) (hl : Lists w A2 35 c2 ls) (hg : goodL ls) :
    Calls Try.prog 24 #[.slice A 16 c, .slice A2 35 c2] w fun e w' => ∃ A' c', e = .returned (.tuple #[.slice A' 16 c', .int .i64 0]) ∧ Bytes w' A' 16 c' (recoverL d ls) ∧ Fresh w.heap.size A' ∧ Below w.heap.size w w' := by
  refine (recover_any d ls A c A2 c2 w hd hl).mono ?_
  rintro e w' ⟨⟨_, A', c', rfl, hv, hf⟩ | ⟨h, _⟩, hb⟩
  · exact ⟨A', c', rfl, hv, hf, hb⟩
  · exact absurd hg h
theorem recover_ill {d : List UInt8} {ls : List (List UInt8)} {A : Option Addr} {c : Nat} {A2 : Option Addr} {c2 : Nat} {w : World} (hd : Bytes w A 16 c d) (hl : Lists w A2 35 c2 ls) (hg : ¬ goodL ls) :
    Calls Try.prog 24 #[.slice A 16 c, .slice A2 35 c2] w fun e w' => e = .returned (.tuple #[.slice none 0 0, .int .i64 3]) ∧ Below w.heap.size w w' := by
  refine (recover_any d ls A c A2 c2 w hd hl).mono ?_
  rintro e w' ⟨⟨h, _⟩ | ⟨_, rfl⟩, hb⟩
  · exact absurd h hg
  · exact ⟨rfl, hb⟩
set_option maxRecDepth 100000 in
set_option maxHeartbeats 4000000 in
theorem recover_bad (A : Option Addr) (n c : Nat) (A2 : Option Addr) (n2 c2 : Nat) (w : World) (hn : ¬ n = 16) :
    Calls Try.prog 24 #[.slice A n c, .slice A2 n2 c2] w fun e w' => e = .returned (.tuple #[.slice none 0 0, .int .i64 3]) ∧ Below w.heap.size w w' := by
  go_enter Try.func24, Try.ntmps24
  go_wp2_with fail
  refine (digits_err _ _ _ _ hn).mono ?_
  rintro e w1 ⟨rfl, rfl⟩
  go_wp2
  go_returns
  exact ⟨rfl, by go_grown⟩
set_option maxRecDepth 100000 in
set_option maxHeartbeats 4000000 in
theorem recover_few (d : List UInt8) (A : Option Addr) (c : Nat) (A2 : Option Addr) (n2 c2 : Nat) (w : World) (hd : Bytes w A 16 c d) (hn : ¬ n2 = 35) :
    Calls Try.prog 24 #[.slice A 16 c, .slice A2 n2 c2] w fun e w' => e = .returned (.tuple #[.slice none 0 0, .int .i64 3]) ∧ Below w.heap.size w w' := by
  have hni : ((n2 : Int) == 35) = false := by simp; omega
  have hni2 : ((n2 : Int) != 35) = true := by simp; omega
  go_enter Try.func24, Try.ntmps24
  go_wp2_with fail
  refine (digits_any _ _ _ _ hd).mono ?_
  rintro e w1 ⟨Ad, cd, rfl, hr, hb⟩
  clear hr
  go_wp2
  go_returns
  exact ⟨rfl, hb⟩
set_option maxRecDepth 100000 in
set_option maxHeartbeats 4000000 in
theorem refRecover_any (d : List UInt8) (ls : List (List UInt8)) (A : Option Addr) (c : Nat) (A2 : Option Addr) (c2 : Nat) (w : World) (hd : Bytes w A 16 c d) (hl : Lists w A2 35 c2 ls) :
    Calls Try.prog 26 #[.slice A 16 c, .slice A2 35 c2] w fun e w' => ((goodL ls ∧ ∃ A' c', e = .returned (.tuple #[.slice A' 16 c', .int .i64 0]) ∧ Bytes w' A' 16 c' (recoverL d ls) ∧ Fresh w.heap.size A') ∨
      (¬ goodL ls ∧ e = .returned (.tuple #[.slice none 0 0, .int .i64 3]))) ∧ Below w.heap.size w w' := by
  obtain ⟨i0, hi, hz0, hz1, hz2⟩ := info_parts infoByteA
  have DB := Lib.hid hd
  have LD := Lib.hid hd.len
  have LB := Lib.hid hl
  have hlc := hl.le
  have hlc2 := hl.cap
  clear hd hl
  go_enter Try.func26, Try.ntmps26
  go_wp2_with fail
  refine (refDigits_any _ _ _ _ DB.out).mono ?_
  rintro e w1 ⟨Ad, cd, rfl, hr, hb⟩
  have R1 := Lib.hid hb
  have hs1 := hb.size
  have LB1 := Lib.hid (LB.out.stays hb)
  have hcd := hr.2.1
  have hcd2 : cd ≤ 9223372036854775807 := by have := hr.2.2.1; unfold maxLen at this; omega
  obtain ⟨b, off, rfl, hc⟩ := row35 hr LD.out
  have HC := Lib.hid hc
  clear hb hr hc DB LB
  go_wp2
  go_loopw [8, 9] (fun o i' wr => ∃ (j m cc : Nat) (AA : Option Addr), j ≤ 35 ∧ i' = .int .i64 j ∧ o = .slice AA m cc ∧ Hid (m = 16 * j) ∧ Hid (∀ q, q < j → (listAt ls q).length = 16) ∧ Hid (wr.ownsRow w1.heap.size 5 1 (.slice AA m cc) m ((endsL ls (fun j => 15 - digN d j) j).map byteV)) ∧ Below w1.heap.size w1 wr) (fun _ i' _ => 35 - (intOf i').toNat)
  case atStart => exact ⟨0, 0, _, _, by omega, rfl, rfl, rfl, fun q h => by omega, World.ownsRow_lit w1 _ _ (Nat.le_refl _) (by decide) rfl, by go_grown⟩
  case round =>
    obtain ⟨j, m, cc, AA, hj, rfl, rfl, hm, HG, HO, hbr⟩ := hrel
    have hsr := hbr.size
    by_cases hj35 : j < 35
    · have hji : (j : Int) < 35 := by omega
      have hcj := cell_stays hbr (HC.out j hj35)
      have HCJ := Lib.hid (HC.out j hj35)
      obtain ⟨b2, off2, A', n', c', rfl, hlj, hy⟩ := LB1.out.at_ hj35
      have HLJ := Lib.hid hlj
      replace hlj := cell_stays hbr hlj
      have HY := Lib.hid (hy.stays hbr)
      have HYL := Lib.hid hy.len
      have hdl := digN_le d j
      have HE : Hid (endsL ls (fun j => 15 - digN d j) (j + 1) = endsL ls (fun j => 15 - digN d j) j ++ chainL (listAt ls j) (15 - digN d j)) := rfl
      have hyle := hy.le
      have hycap := hy.cap
      clear hy
      generalize digN d j = dd at *
      by_cases hn : n' = 16
      · subst hn
        have hm9 : m ≤ 600 := by have := hm.out; omega
        have wk : IntKind.i64.wrap (15 - (dd : Int)) = 15 - (dd : Int) := IntWalk.i64_in _ (by omega)
        go_wp2_with fail
        go_region_held3 (fun w' => w'.cell? ⟨b2, off2 + j, none⟩ = some (.slice A' 16 c') ∧ w'.cell? ⟨b, off + j, none⟩ = some (.int .i64 dd))
          (go_keep)
          (first
            | (go_at_call 59; refine (refChain16i _ _ _ (15 - (dd : Int)) (15 - dd) _ (HY.out.stays (by go_grown)) (by omega) (by omega)).mono ?_; rintro e w3 ⟨A3, c3, rfl, hv, hf, hb⟩; have z0 : w3.cell? ⟨b2, off2 + j, none⟩ = some (.slice A' 16 c') := cell_stays hb (by go_simp); have z1 : w3.cell? ⟨b, off + j, none⟩ = some (.int .i64 dd) := cell_stays hb (by go_simp); have R3 : Below wr.heap.size wr w3 := (below_via (by go_grown) hb (by simp)))
            | (refine step_append_own rfl _ _ 22 rfl i0 (.int .u8 0) 1 Try.underlying22 hi hz0 hz1 hz2 rfl (by decide) rfl (own_below HO.out R3) rfl hv (oneCell_bytes _) (by unfold maxLen; omega) (by omega) (by have := R3.size; omega) ?_; intro A8 c8 w8 hown8 hg8 hb8; have hB8 : Below w1.heap.size w1 w8 := (hbr.trans (R3.mono hsr)).trans hb8; have v0 := cell_stays hB8 HLJ.out; have v1 := cell_stays hB8 HCJ.out))
        have H8 := Lib.hid hown8
        clear hown8 hg8 hb8 hv hf hb R3 wk
        go_wp2
        go_roundw
        case rel =>
          refine ⟨j + 1, m + 16, c8, A8, by omega, by go_num, rfl, by have := hm.out; unfold Hid; omega, fun q hq => ?_, ?_, hB8⟩
          · by_cases e : q = j
            · rw [e]; exact HYL.out
            · exact HG.out q (by omega)
          · unfold Hid
            rw [HE.out, List.map_append]
            exact H8.out
        case measure => simp [intOf]; omega
      · have hni : ((n' : Int) == 16) = false := by simp; omega
        have hni2 : ((n' : Int) != 16) = true := by simp; omega
        have HN := Lib.hid hn
        clear hn
        go_wp2
        go_returns
        exact ⟨.inr ⟨fun h => HN.out (by rw [← HYL.out]; exact h j hj35), rfl⟩, R1.out.trans (by first | exact hbr.mono hs1 | exact (show Below w1.heap.size w1 _ by go_grown).mono hs1)⟩
    · obtain rfl : j = 35 := by omega
      have hr : Bytes wr AA m cc (endsL ls (fun j => 15 - digN d j) 35) := own_rd HO.out
      have HR := Lib.hid hr
      clear hr
      go_wp2_with fail
      refine (refShort_new _ _ _ _ _ HR.out).mono ?_
      rintro e w4 ⟨A4, c4, rfl, hv, hf, hb⟩
      have V4 : Hid (Bytes w4 A4 16 _ (recoverL d ls)) := hv
      have F4 := Lib.hid (hf.more (B' := w.heap.size) (by omega))
      have R4 := R1.out.trans ((hbr.trans (hb.mono hsr)).mono hs1)
      clear hv hf hb
      go_wp2
      go_returns
      exact ⟨.inl ⟨fun q hq => HG.out q hq, _, _, rfl, V4.out, F4.out⟩, R4⟩
theorem refRecover_ok {d : List UInt8} {ls : List (List UInt8)} {A : Option Addr} {c : Nat} {A2 : Option Addr} {c2 : Nat} {w : World} (hd : Bytes w A 16 c d) (hl : Lists w A2 35 c2 ls) (hg : goodL ls) :
    Calls Try.prog 26 #[.slice A 16 c, .slice A2 35 c2] w fun e w' => ∃ A' c', e = .returned (.tuple #[.slice A' 16 c', .int .i64 0]) ∧ Bytes w' A' 16 c' (recoverL d ls) ∧ Below w.heap.size w w' := by
  refine (refRecover_any d ls A c A2 c2 w hd hl).mono ?_
  rintro e w' ⟨⟨_, A', c', rfl, hv, _⟩ | ⟨h, _⟩, hb⟩
  · exact ⟨A', c', rfl, hv, hb⟩
  · exact absurd hg h
theorem refRecover_new {d : List UInt8} {ls : List (List UInt8)} {A : Option Addr} {c : Nat} {A2 : Option Addr} {c2 : Nat} {w : World} (hd : Bytes w A 16 c d) (hl : Lists w A2 35 c2 ls) (hg : goodL ls) :
    Calls Try.prog 26 #[.slice A 16 c, .slice A2 35 c2] w fun e w' => ∃ A' c', e = .returned (.tuple #[.slice A' 16 c', .int .i64 0]) ∧ Bytes w' A' 16 c' (recoverL d ls) ∧ Fresh w.heap.size A' ∧ Below w.heap.size w w' := by
  refine (refRecover_any d ls A c A2 c2 w hd hl).mono ?_
  rintro e w' ⟨⟨_, A', c', rfl, hv, hf⟩ | ⟨h, _⟩, hb⟩
  · exact ⟨A', c', rfl, hv, hf, hb⟩
  · exact absurd hg h
theorem refRecover_ill {d : List UInt8} {ls : List (List UInt8)} {A : Option Addr} {c : Nat} {A2 : Option Addr} {c2 : Nat} {w : World} (hd : Bytes w A 16 c d) (hl : Lists w A2 35 c2 ls) (hg : ¬ goodL ls) :
    Calls Try.prog 26 #[.slice A 16 c, .slice A2 35 c2] w fun e w' => e = .returned (.tuple #[.slice none 0 0, .int .i64 3]) ∧ Below w.heap.size w w' := by
  refine (refRecover_any d ls A c A2 c2 w hd hl).mono ?_
  rintro e w' ⟨⟨h, _⟩ | ⟨_, rfl⟩, hb⟩
  · exact absurd h hg
  · exact ⟨rfl, hb⟩
set_option maxRecDepth 100000 in
set_option maxHeartbeats 4000000 in
theorem refRecover_bad (A : Option Addr) (n c : Nat) (A2 : Option Addr) (n2 c2 : Nat) (w : World) (hn : ¬ n = 16) :
    Calls Try.prog 26 #[.slice A n c, .slice A2 n2 c2] w fun e w' => e = .returned (.tuple #[.slice none 0 0, .int .i64 3]) ∧ Below w.heap.size w w' := by
  go_enter Try.func26, Try.ntmps26
  go_wp2_with fail
  refine (refDigits_err _ _ _ _ hn).mono ?_
  rintro e w1 ⟨rfl, rfl⟩
  go_wp2
  go_returns
  exact ⟨rfl, by go_grown⟩
set_option maxRecDepth 100000 in
set_option maxHeartbeats 4000000 in
theorem refRecover_few (d : List UInt8) (A : Option Addr) (c : Nat) (A2 : Option Addr) (n2 c2 : Nat) (w : World) (hd : Bytes w A 16 c d) (hn : ¬ n2 = 35) :
    Calls Try.prog 26 #[.slice A 16 c, .slice A2 n2 c2] w fun e w' => e = .returned (.tuple #[.slice none 0 0, .int .i64 3]) ∧ Below w.heap.size w w' := by
  have hni : ((n2 : Int) == 35) = false := by simp; omega
  have hni2 : ((n2 : Int) != 35) = true := by simp; omega
  go_enter Try.func26, Try.ntmps26
  go_wp2_with fail
  refine (refDigits_any _ _ _ _ hd).mono ?_
  rintro e w1 ⟨Ad, cd, rfl, hr, hb⟩
  clear hr
  go_wp2
  go_returns
  exact ⟨rfl, hb⟩
end Go.Proofs.Ytahphlcahaheiaa
