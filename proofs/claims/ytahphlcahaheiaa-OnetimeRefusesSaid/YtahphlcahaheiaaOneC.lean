/- onetime.Sign and its reference. -/
import Derived.Test.YtahphlcahaheiaaOneB
import Derived.Test.YtahphlcahaheiaaOneE
namespace Go.Proofs.Ytahphlcahaheiaa
open Go.RowKit

def nilS : Value := .slice none 0 0
/-- A row of 35 slices of which the first j are laid. -/
def rowS (vs : List Value) (j : Nat) : Array Value := (vs ++ List.replicate (35 - j) nilS).toArray
theorem make_35 (w : World) : (Instr.makeSlice 33 (.int .i64 35) (.int .i64 35)).run Try.prog w =
    .ok (.slice (some ⟨w.heap.size, 0, none⟩) 35 35) (w.alloc (.cells (rowS [] 0) 22)) := by
  obtain ⟨i0, hi, hz0, hz1, hz2⟩ := info_parts infoSl
  have := run_make (P := Try.prog) w 33 22 i0 (.slice none 0 0) Try.underlying33 hi hz0 .i64 .i64 35 35 (by omega) (by omega) (by rw [hz2]; omega) (by omega)
  have e : madeCells #[nilS] 35 = rowS [] 0 := by
    apply Array.toList_inj.mp
    rw [toList_madeCells_one]; simp [rowS]
  rw [← e]
  simpa [hz1, Value.cells, nilS] using this
theorem rowS_at (vs : List Value) (j : Nat) (hl : vs.length = j) (h : j < 35) : (rowS vs j)[j]? = some nilS := by
  simp only [rowS, List.getElem?_toArray]
  rw [List.getElem?_append_right (by omega)]
  simp [List.getElem?_replicate, hl]; omega
theorem rowS_set (vs : List Value) (j : Nat) (v : Value) (hl : vs.length = j) (h : j < 35) : (rowS vs j).setIfInBounds j v = rowS (vs ++ [v]) (j + 1) := by
  simp only [rowS, List.setIfInBounds_toArray]
  congr 1
  rw [show 35 - j = (35 - (j + 1)) + 1 by omega, List.replicate_succ, List.set_append_right _ _ (by omega), hl, Nat.sub_self, List.set_cons_zero, List.append_assoc]
  rfl
theorem rowS_rd {w : World} {g : Nat} {t : TypeId} {vs : List Value} (h : Blk w g t (rowS vs 35)) (hl : vs.length = 35) : Rd w 1 (some ⟨g, 0, none⟩) 35 35 vs := by
  refine ⟨by rw [hl], Nat.le_refl _, by decide, fun i u hu => ⟨g, 0, rfl, ?_⟩⟩
  rw [Nat.zero_add, h.cell i]
  simpa [rowS] using hu
theorem itemsV_put {w : World} {g : Nat} {vs : List Value} {ls : List (List UInt8)} (h : ItemsV 1 encB id w (some g) vs ls) (k : Nat) (v : Value) : ItemsV 1 encB id (w.setCell ⟨g, k, none⟩ v) (some g) vs ls :=
  h.grew (grown_put (World.grownBy.refl w _) k v) (.inl rfl)
set_option maxRecDepth 100000 in
set_option maxHeartbeats 4000000 in
theorem sign_ok (seed d : List UInt8) (A : Option Addr) (c i : Nat) (A2 : Option Addr) (c2 : Nat) (w : World) (hs : Bytes w A 32 c seed) (hd : Bytes w A2 16 c2 d) (hix : i ≤ 2147483647) :
    Calls Try.prog 27 #[.slice A 32 c, .int .i64 i, .slice A2 16 c2] w fun e w' => ∃ A' c', e = .returned (.tuple #[.slice A' 35 c', .int .i64 0]) ∧ Lists w' A' 35 c' (signL seed i d) ∧ Below w.heap.size w w' := by
  have SB := Lib.hid hs
  have DB := Lib.hid hd
  have LD := Lib.hid hd.len
  clear hs hd
  have hmk := make_35
  go_enter Try.func27, Try.ntmps27
  go_wp2_with fail
  refine (valid_is (v := 0) (by unfold validE; rw [if_neg (by omega), if_neg (by omega)])).mono ?_
  rintro e wx ⟨rfl, rfl⟩
  go_wp2_with fail
  refine (digits_any _ _ _ _ DB.out).mono ?_
  rintro e w1 ⟨Ad, cd, rfl, hr, hb⟩
  have R1 := Lib.hid hb
  have hs1 := hb.size
  have SB1 := Lib.hid (SB.out.stays hb)
  have hcd := hr.2.1
  obtain ⟨b, off, rfl, hc⟩ := row35 hr LD.out
  have HC := Lib.hid hc
  clear hb hr hc DB SB
  go_wp2
  clear hmk
  have hB0 := Lib.hid (Blk.new w1 22 (rowS [] 0))
  go_loopw [12, 13, 33] (fun _ _ i' wr => ∃ (j : Nat) (vs : List Value), j ≤ 35 ∧ i' = .int .i64 j ∧ Hid (vs.length = j) ∧ Hid (Blk wr w1.heap.size 22 (rowS vs j)) ∧ Hid (ItemsV 1 encB id wr (some w1.heap.size) vs (signTo seed i (digN d) j)) ∧ Below w1.heap.size w1 wr ∧ w1.heap.size < wr.heap.size) (fun _ _ i' _ => 35 - (intOf i').toNat)
  case atStart => exact ⟨0, [], by omega, rfl, rfl, hB0, ItemsV.nil _ _, by go_grown, by simp⟩
  case round =>
    clear hB0
    obtain ⟨j, vs, hj, rfl, hvl, HB, HI, hbr, hlt⟩ := hrel
    by_cases hj35 : j < 35
    · have hji : (j : Int) < 35 := by omega
      have hcj := cell_stays hbr (HC.out j hj35)
      have hdl := digN_le d j
      have HST : Hid (signTo seed i (digN d) (j + 1) = signTo seed i (digN d) j ++ [chainL (beginL seed i j) (digN d j)]) := rfl
      generalize digN d j = dd at *
      go_wp2_with fail
      refine (begin_any seed _ _ i j _ (SB1.out.stays hbr) hix hj35).mono ?_
      rintro e w2 ⟨A2, c2, rfl, hv, hf, hb⟩
      have V2 := Lib.hid hv
      have HB2 := Lib.hid (HB.out.stays hb)
      have HI2 := Lib.hid (HI.out.stays hb)
      have hs2 := hb.size
      have R2 : Below w1.heap.size w1 w2 := hbr.trans (hb.mono (by omega))
      clear hv hf hb HB HI hcj
      go_wp2_with fail
      refine (chain16 _ _ _ dd _ V2.out (by omega)).mono ?_
      rintro e w3 ⟨A3, c3, rfl, hv, hf, hb⟩
      have V3 := Lib.hid hv
      have hs3 := hb.size
      have HO3 := Lib.hid (Off.fresh (n := 16) (bad := some w1.heap.size) hf (fun k hk => by injection hk with hk; omega))
      have HB3 := Lib.hid (HB2.out.stays hb)
      have HI3 := Lib.hid (HI2.out.stays hb)
      have R3 : Below w1.heap.size w1 w3 := R2.trans (hb.mono (by omega))
      clear hv hf hb HB2 HI2 V2
      have e0 := HB3.out.cell j
      rw [rowS_at vs j hvl.out hj35] at e0
      have e1 := HB3.out.frozen j
      have hlt3 : w1.heap.size < w3.heap.size := by omega
      go_wp2
      go_roundw
      case rel =>
        refine ⟨j + 1, vs ++ [.slice A3 16 c3], by omega, by go_num, by unfold Hid; simp [hvl.out], ?_, ?_, R3.setCell (p := ⟨w1.heap.size, j, none⟩) (Nat.le_refl _) _, by simpa using hlt3⟩
        · have := HB3.out.put j (.slice A3 16 c3)
          rw [rowS_set vs j _ hvl.out hj35] at this
          exact this
        · unfold Hid
          rw [HST.out]
          exact (itemsV_put HI3.out j _).snoc _ A3 16 c3 rfl (V3.out.kept (grown_put (World.grownBy.refl w3 _) j _) HO3.out) HO3.out
      case measure => simp [intOf]; omega
    · obtain rfl : j = 35 := by omega
      go_wp2
      go_returns
      refine ⟨_, _, rfl, HI.out.lists (rowS_rd HB.out hvl.out), R1.out.trans (hbr.mono hs1)⟩
set_option maxRecDepth 100000 in
set_option maxHeartbeats 4000000 in
theorem refSign_ok (seed d : List UInt8) (A : Option Addr) (c i : Nat) (A2 : Option Addr) (c2 : Nat) (w : World) (hs : Bytes w A 32 c seed) (hd : Bytes w A2 16 c2 d) (hix : i ≤ 2147483647) :
    Calls Try.prog 23 #[.slice A 32 c, .int .i64 i, .slice A2 16 c2] w fun e w' => ∃ A' c', e = .returned (.tuple #[.slice A' 35 c', .int .i64 0]) ∧ OwnItems 1 encB id 22 w' w.heap.size A' 35 c' (signL seed i d) ∧ Below w.heap.size w w' := by
  obtain ⟨i0, hi, hz0, hz1, hz2⟩ := info_parts infoSl
  have SB := Lib.hid hs
  have DB := Lib.hid hd
  have LD := Lib.hid hd.len
  clear hs hd
  go_enter Try.func23, Try.ntmps23
  go_wp2_with fail
  refine (check_is (v := 0) (by unfold validE; rw [if_neg (by omega), if_neg (by omega)])).mono ?_
  rintro e wx ⟨rfl, rfl⟩
  go_wp2_with fail
  refine (refDigits_any _ _ _ _ DB.out).mono ?_
  rintro e w1 ⟨Ad, cd, rfl, hr, hb⟩
  have R1 := Lib.hid hb
  have hs1 := hb.size
  have SB1 := Lib.hid (SB.out.stays hb)
  have hcd := hr.2.1
  have hcd2 : cd ≤ 9223372036854775807 := by have := hr.2.2.1; unfold maxLen at this; omega
  obtain ⟨b, off, rfl, hc⟩ := row35 hr LD.out
  have HC := Lib.hid hc
  clear hb hr hc DB SB
  go_wp2
  go_loopw [11, 12, 13, 14] (fun o i' _ _ wr => ∃ (j cc : Nat) (AA : Option Addr), j ≤ 35 ∧ i' = .int .i64 j ∧ o = .slice AA j cc ∧ Hid (OwnItems 1 encB id 22 wr w1.heap.size AA j cc (signTo seed i (digN d) j)) ∧ Below w1.heap.size w1 wr) (fun _ i' _ _ _ => 35 - (intOf i').toNat)
  case atStart => exact ⟨0, 0, none, by omega, rfl, rfl, OwnItems.nil _ _, by go_grown⟩
  case round =>
    obtain ⟨j, cc, AA, hj, rfl, rfl, HI, hbr⟩ := hrel
    have hsr := hbr.size
    by_cases hj35 : j < 35
    · have hji : (j : Int) < 35 := by omega
      have hcj := cell_stays hbr (HC.out j hj35)
      have hdl := digN_le d j
      have HST : Hid (signTo seed i (digN d) (j + 1) = signTo seed i (digN d) j ++ [chainL (beginL seed i j) (digN d j)]) := rfl
      have HCJ := Lib.hid (HC.out j hj35)
      generalize digN d j = dd at *
      go_wp2_with fail
      refine (refSecret_ok seed _ _ i j _ (SB1.out.stays hbr) hix hj35).mono ?_
      rintro e w2 ⟨A2, c2, rfl, hv, hf, hb⟩
      have V2 := Lib.hid hv
      have HI2 := Lib.hid (HI.out.stays hb)
      have hs2 := hb.size
      have R2 : Below w1.heap.size w1 w2 := hbr.trans (hb.mono hsr)
      have hcj := cell_stays R2 HCJ.out
      clear hv hf hb HI
      go_wp2_with fail
      refine (refChain16 _ _ _ dd _ V2.out (by omega)).mono ?_
      rintro e w3 ⟨A3, c3, rfl, hv, hf, hb⟩
      have V3 := Lib.hid hv
      have hs3 := hb.size
      have HO3 := Lib.hid (Off.fresh (n := 16) (bad := (Value.slice AA j cc).ownBlock) hf HI2.out.lt)
      have HI3 := Lib.hid (HI2.out.stays hb)
      have R3 : Below w1.heap.size w1 w3 := R2.trans (hb.mono (by omega))
      have hsz3 := R3.size
      clear hv hf hb HI2 V2 hcj
      go_wp2_with (at_builtin; refine wpList_append_items rfl _ _ 33 rfl i0 _ 24 Try.underlying33 hi hz0 hz1 hz2 rfl (by decide) rfl (HI3.out.stays ((Below.refl _ _).alloc (Nat.le_refl _) _)) rfl (chainL (beginL seed i j) dd) rfl (rd_one _ _ _) (by simp [encB, Value.oneCell']) (V3.out.stays ((Below.refl _ _).alloc (Nat.le_refl _) _)) HO3.out ?c1 ?c2 ?c3 ?_)
      case c1 => unfold maxLen; omega
      case c2 => omega
      case c3 => simp; omega
      intro A8 c8 w8 hown8 hg8 hb8
      have H8 := Lib.hid hown8
      have hB8 : Below w1.heap.size w1 w8 := (R3.alloc hsz3 _).trans hb8
      clear hown8 hg8 hb8
      go_wp2
      go_roundw
      case rel => exact ⟨j + 1, c8, A8, by omega, by go_num, rfl, by unfold Hid; rw [HST.out]; exact H8.out, hB8⟩
      case measure => simp [intOf]; omega
    · obtain rfl : j = 35 := by omega
      go_wp2
      go_returns
      exact ⟨_, _, rfl, HI.out.more hs1, R1.out.trans (hbr.mono hs1)⟩
set_option maxRecDepth 100000 in
set_option maxHeartbeats 4000000 in
theorem sign_err (A : Option Addr) (n c : Nat) (i v : Int) (A2 : Option Addr) (n2 c2 : Nat) (w : World) (hv : validE n i = v) (h0 : v ≠ 0) :
    Calls Try.prog 27 #[.slice A n c, .int .i64 i, .slice A2 n2 c2] w fun e w' => e = .returned (.tuple #[.slice none 0 0, .int .i64 v]) ∧ Below w.heap.size w w' := by
  have HV := Lib.hid hv
  have hb : (v == 0) = false := by simpa using h0
  have hb2 : (v != 0) = true := by simp [bne, hb]
  clear hv h0
  go_enter Try.func27, Try.ntmps27
  go_wp2_with fail
  refine (valid_is HV.out).mono ?_
  rintro e wx ⟨rfl, rfl⟩
  go_wp2
  go_returns
  exact ⟨rfl, by go_grown⟩
set_option maxRecDepth 100000 in
set_option maxHeartbeats 4000000 in
theorem sign_bad (A : Option Addr) (c i : Nat) (A2 : Option Addr) (n2 c2 : Nat) (w : World) (hix : i ≤ 2147483647) (hn16 : ¬ n2 = 16) :
    Calls Try.prog 27 #[.slice A 32 c, .int .i64 i, .slice A2 n2 c2] w fun e w' => e = .returned (.tuple #[.slice none 0 0, .int .i64 3]) ∧ Below w.heap.size w w' := by
  go_enter Try.func27, Try.ntmps27
  go_wp2_with fail
  refine (valid_is (v := 0) (by unfold validE; rw [if_neg (by omega), if_neg (by omega)])).mono ?_
  rintro e wx ⟨rfl, rfl⟩
  go_wp2_with fail
  refine (digits_err _ _ _ _ hn16).mono ?_
  rintro e w1 ⟨rfl, rfl⟩
  go_wp2
  go_returns
  exact ⟨rfl, by go_grown⟩
set_option maxRecDepth 100000 in
set_option maxHeartbeats 4000000 in
theorem refSign_err (A : Option Addr) (n c : Nat) (i v : Int) (A2 : Option Addr) (n2 c2 : Nat) (w : World) (hv : validE n i = v) (h0 : v ≠ 0) :
    Calls Try.prog 23 #[.slice A n c, .int .i64 i, .slice A2 n2 c2] w fun e w' => e = .returned (.tuple #[.slice none 0 0, .int .i64 v]) ∧ Below w.heap.size w w' := by
  have HV := Lib.hid hv
  have hb : (v == 0) = false := by simpa using h0
  have hb2 : (v != 0) = true := by simp [bne, hb]
  clear hv h0
  go_enter Try.func23, Try.ntmps23
  go_wp2_with fail
  refine (check_is HV.out).mono ?_
  rintro e wx ⟨rfl, rfl⟩
  go_wp2
  go_returns
  exact ⟨rfl, by go_grown⟩
set_option maxRecDepth 100000 in
set_option maxHeartbeats 4000000 in
theorem refSign_bad (A : Option Addr) (c i : Nat) (A2 : Option Addr) (n2 c2 : Nat) (w : World) (hix : i ≤ 2147483647) (hn16 : ¬ n2 = 16) :
    Calls Try.prog 23 #[.slice A 32 c, .int .i64 i, .slice A2 n2 c2] w fun e w' => e = .returned (.tuple #[.slice none 0 0, .int .i64 3]) ∧ Below w.heap.size w w' := by
  go_enter Try.func23, Try.ntmps23
  go_wp2_with fail
  refine (check_is (v := 0) (by unfold validE; rw [if_neg (by omega), if_neg (by omega)])).mono ?_
  rintro e wx ⟨rfl, rfl⟩
  go_wp2_with fail
  refine (refDigits_err _ _ _ _ hn16).mono ?_
  rintro e w1 ⟨rfl, rfl⟩
  go_wp2
  go_returns
  exact ⟨rfl, by go_grown⟩
end Go.Proofs.Ytahphlcahaheiaa
