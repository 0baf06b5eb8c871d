/- OnetimeRefuses: the walk. -/
import Derived.Test.YtahphlcahaheiaaOneW
namespace Go.Proofs.Ytahphlcahaheiaa
open Go.RowKit

theorem changed_of (l : List UInt8) (n : Nat) (at' by' : Int) (hl : l.length = n) (hn : 0 < n) (hn2 : n ≤ 100000) :
    ∃ l' : List UInt8, l'.length = n ∧ ∀ (A : Option Addr) (c : Nat) (w : World), Bytes w A n c l → Calls Try.prog 25 #[.slice A n c, .int .i64 at', .int .i64 by'] w fun e w' => ∃ A' c', e = .returned (.slice A' n c') ∧ Bytes w' A' n c' l' ∧ Fresh w.heap.size A' ∧ Below w.heap.size w w' := by
  subst hl
  exact changed_any l _ _ _ at' by' _ (Bytes.made (w := default) (l := l) (E := 0) (by unfold maxLen; omega)) hn hn2
theorem ItemsV.set1 {w : World} {bad : Option Nat} {vs : List Value} {ls : List (List UInt8)} (h : ItemsV 1 encB id w bad vs ls) (k : Nat) (l2 : List UInt8) (A : Option Addr) (n c : Nat) (hk : k < ls.length) (hb : Bytes w A n c l2) (ho : Off A n bad) :
    ItemsV 1 encB id w bad (vs.set k (.slice A n c)) (ls.set k l2) := by
  have hl := h.1
  refine ⟨by simp [hl], fun i x hx => ?_⟩
  by_cases e : i = k
  · subst e
    have hx2 : x = l2 := by simpa [hk] using hx.symm
    subst hx2
    refine ⟨A, n, c, fun q hq => ?_, hb, ho⟩
    have : q = 0 := by omega
    subst this
    have hiv : i < vs.length := by omega
    simp [encB, hiv]
  · rw [List.getElem?_set_ne (fun h => e h.symm)] at hx
    obtain ⟨A', n', c', e1, e2, e3⟩ := h.2 i x hx
    refine ⟨A', n', c', fun q hq => ?_, e2, e3⟩
    have : q = 0 := by omega
    subst this
    rw [List.getElem?_set_ne (by omega)]
    exact e1 0 (by omega)
set_option maxRecDepth 100000 in
set_option maxHeartbeats 4000000 in
theorem onetimeRefuses_walk (a b c : Int) (w : World) :
    Calls Try.prog 4 #[.int .i64 a, .int .i64 b, .int .i64 c] w fun e w' => e = .returned (.bool true) ∧ Below w.heap.size w w' := by
  obtain ⟨x, hx, hx2⟩ : ∃ x : Nat, a % 1000 = (x : Int) ∧ x < 1000 := ⟨(a % 1000).toNat, by omega, by omega⟩
  have Hx := Lib.hid hx
  clear hx
  obtain ⟨k, hk, hk2⟩ : ∃ k : Nat, b % 35 = (k : Int) ∧ k < 35 := ⟨(b % 35).toNat, by omega, by omega⟩
  have Hk := Lib.hid hk
  clear hk
  go_enter Try.func4, Try.ntmps4
  go_wp2_with fail
  refine (within_any a 1000 (by decide) (by decide) _).mono ?_
  rintro e w1 ⟨rfl, rfl⟩
  rw [Hx.out]
  go_wp2_with fail
  refine (key_any x _ (by omega)).mono ?_
  rintro e w1 ⟨AK, cK, rfl, hv, hb⟩
  have hbx : Below w.heap.size w w1 := below_via (by go_grown) hb (by first | (simp; done) | (simp; omega))
  have KB := Lib.hid hv
  have R1 := Lib.hid hbx
  have hs1 := R1.out.size
  clear hb hbx hv
  go_wp2_with fail
  refine (within_any a 1000 (by decide) (by decide) _).mono ?_
  rintro e w2 ⟨rfl, rfl⟩
  rw [Hx.out]
  go_wp2_with fail
  refine (wbytes_any (x + 5) 16 _ (by omega) (by omega) (by omega)).mono ?_
  rintro e w2 ⟨AD, cD, rfl, hv, hb⟩
  have hbx : Below w1.heap.size w1 w2 := below_via (by go_grown) hb (by first | (simp; done) | (simp; omega))
  have KB := Lib.hid (KB.out.stays hbx)
  have DB := Lib.hid hv
  have R2 := Lib.hid (R1.out.trans (hbx.mono hs1))
  have hs2 := R2.out.size
  clear hb hbx hv
  clear R1
  have LD := Lib.hid DB.out.len
  have DLT := Lib.hid (DB.out.lt (by decide))
  have hsd : w.heap.size ≤ w2.heap.size := hs2
  go_wp2_with fail
  refine (refSign_ok _ _ _ _ 3 _ _ _ KB.out DB.out (by omega)).mono ?_
  rintro e w3 ⟨AS, cS, rfl, hv, hb⟩
  have hbx : Below w2.heap.size w2 w3 := below_via (by go_grown) hb (by first | (simp; done) | (simp; omega))
  have KB := Lib.hid (KB.out.stays hbx)
  have DB := Lib.hid (DB.out.stays hbx)
  have SO := Lib.hid hv
  have R3 := Lib.hid (R2.out.trans (hbx.mono hs2))
  have hs3 := R3.out.size
  clear hb hbx hv
  clear R2
  clear KB
  obtain ⟨vs, hown, hI⟩ := SO.out
  obtain ⟨gb, cur, rfl, hgb, hB, hc1, hc2, hcur⟩ := own_blk hown (by decide)
  have SI : Hid (ItemsV 1 encB id _ (some gb) vs _) := hI
  have SK := Lib.hid hB
  have HC := Lib.hid hcur
  have hcm : cS ≤ 9223372036854775807 := by unfold maxLen at hc2; omega
  have HC2 := Lib.hid hc2
  have HLs : Hid ((signL (wbytesL x 32) 3 (wbytesL (x + 5) 16)).length = 35) := signTo_length _ _ _ _
  have hvl : vs.length = 35 := by have := hI.1; rw [HLs.out] at this; omega
  have HGd := Lib.hid (goodL_sign (wbytesL x 32) 3 (wbytesL (x + 5) 16))
  clear SO hown hI hB hcur hc2
  generalize signL (wbytesL x 32) 3 (wbytesL (x + 5) 16) = ls at *
  generalize wbytesL (x + 5) 16 = d at *
  obtain ⟨d1, hd1, hch⟩ := changed_of d 16 b c LD.out (by decide) (by decide)
  have CH := Lib.hid hch
  clear hch hd1
  go_wp2_with fail
  refine (CH.out _ _ _ DB.out).mono ?_
  rintro e w4 ⟨A1, c1, rfl, hv, hf, hb⟩
  have hbx : Below w3.heap.size w3 w4 := below_via (by go_grown) hb (by first | (simp; done) | (simp; omega))
  have DB := Lib.hid (DB.out.stays hbx)
  have SI := Lib.hid (SI.out.stays hbx)
  have SK := Lib.hid (SK.out.stays hbx)
  have D1 := Lib.hid hv
  have R4 := Lib.hid (R3.out.trans (hbx.mono hs3))
  have hs4 := R4.out.size
  clear hb hbx hv
  clear R3
  clear hf
  go_wp2_with fail
  have SKl := SK.out.lt
  refine (recover_new D1.out (SI.out.lists (blk_rd SK.out HC.out hvl hc1 HC2.out)) HGd.out).mono ?_
  rintro e w5 ⟨AP, cP, rfl, hv, hf, hb⟩
  have hbx : Below w4.heap.size w4 w5 := below_via (by go_grown) hb (by first | (simp; done) | (simp; omega))
  have DB := Lib.hid (DB.out.stays hbx)
  have SI := Lib.hid (SI.out.stays hbx)
  have SK := Lib.hid (SK.out.stays hbx)
  have D1 := Lib.hid (D1.out.stays hbx)
  have PB := Lib.hid hv
  have R5 := Lib.hid (R4.out.trans (hbx.mono hs4))
  have hs5 := R5.out.size
  clear hb hbx hv
  clear R4
  have ZP : Hid (Off AP 16 (some gb)) := Off.fresh hf (fun q hq => by injection hq with hq; omega)
  clear hf SKl
  go_wp2_with fail
  refine (CH.out _ _ _ DB.out).mono ?_
  rintro e w6 ⟨A2, c2, rfl, hv, hf, hb⟩
  have hbx : Below w5.heap.size w5 w6 := below_via (by go_grown) hb (by first | (simp; done) | (simp; omega))
  have DB := Lib.hid (DB.out.stays hbx)
  have SI := Lib.hid (SI.out.stays hbx)
  have SK := Lib.hid (SK.out.stays hbx)
  have D1 := Lib.hid (D1.out.stays hbx)
  have PB := Lib.hid (PB.out.stays hbx)
  have D2 := Lib.hid hv
  have R6 := Lib.hid (R5.out.trans (hbx.mono hs5))
  have hs6 := R6.out.size
  clear hb hbx hv
  clear R5
  clear hf
  go_wp2_with fail
  have SKl := SK.out.lt
  refine (refRecover_new D2.out (SI.out.lists (blk_rd SK.out HC.out hvl hc1 HC2.out)) HGd.out).mono ?_
  rintro e w7 ⟨AQ, cQ, rfl, hv, hf, hb⟩
  have hbx : Below w6.heap.size w6 w7 := below_via (by go_grown) hb (by first | (simp; done) | (simp; omega))
  have DB := Lib.hid (DB.out.stays hbx)
  have SI := Lib.hid (SI.out.stays hbx)
  have SK := Lib.hid (SK.out.stays hbx)
  have D1 := Lib.hid (D1.out.stays hbx)
  have PB := Lib.hid (PB.out.stays hbx)
  have D2 := Lib.hid (D2.out.stays hbx)
  have QB := Lib.hid hv
  have R7 := Lib.hid (R6.out.trans (hbx.mono hs6))
  have hs7 := R7.out.size
  clear hb hbx hv
  clear R6
  have ZQ : Hid (Off AQ 16 (some gb)) := Off.fresh hf (fun q hq => by injection hq with hq; omega)
  clear hf SKl
  clear D1 D2
  go_wp2_with fail
  refine (within_any b 35 (by decide) (by decide) _).mono ?_
  rintro e w8 ⟨rfl, rfl⟩
  rw [Hk.out]
  go_wp2_with fail
  refine (within_any b 35 (by decide) (by decide) _).mono ?_
  rintro e w8 ⟨rfl, rfl⟩
  rw [Hk.out]
  have hls := HGd.out k hk2
  have hlt := (SI.out.lists (blk_rd SK.out HC.out hvl hc1 HC2.out))
  obtain ⟨b0, off0, A3, n3, c3, e3, hcl, hy⟩ := hlt.at_ hk2
  simp only [Option.some.injEq, Addr.mk.injEq] at e3
  obtain ⟨rfl, rfl, _⟩ := e3
  rw [Nat.zero_add] at hcl
  obtain rfl : n3 = 16 := by rw [← hy.len]; exact hls
  have YB := Lib.hid hy
  have y1 := hy.le
  have y2 := hy.cap
  clear hy hlt
  obtain ⟨l2, hl2, hch2⟩ := changed_of (listAt ls k) 16 c b hls (by decide) (by decide)
  have CH2 := Lib.hid hch2
  have HL2 := Lib.hid hl2
  clear hch2 hl2 hls
  have hg2 : Hid (goodL (ls.set k l2)) := by
    intro j hj
    unfold listAt
    rw [List.getD, List.getElem?_set]
    split
    · rw [if_pos (by rw [HLs.out]; exact hk2)]; exact HL2.out
    · exact HGd.out j hj
  have SKf := Lib.hid (SK.out.lt)
  go_wp2_with fail
  refine (CH2.out _ _ _ YB.out).mono ?_
  rintro e w8 ⟨A4, c4, rfl, hv, hf, hb⟩
  have hbx : Below w7.heap.size w7 w8 := below_via (by go_grown) hb (by first | (simp; done) | (simp; omega))
  have DB := Lib.hid (DB.out.stays hbx)
  have SI := Lib.hid (SI.out.stays hbx)
  have SK := Lib.hid (SK.out.stays hbx)
  have PB := Lib.hid (PB.out.stays hbx)
  have QB := Lib.hid (QB.out.stays hbx)
  have YB := Lib.hid (YB.out.stays hbx)
  have ZB := Lib.hid hv
  have R8 := Lib.hid (R7.out.trans (hbx.mono hs7))
  have hs8 := R8.out.size
  clear hb hbx hv
  clear R7
  have ZO : Hid (Off A4 16 (some gb)) := Off.fresh hf (fun q hq => by injection hq with hq; subst hq; exact SKf.out)
  clear hf hcl
  have hcl := SK.out.cell k
  have hcf := SK.out.frozen k
  have hcs : (cur[k]?).isSome = true := by
    have h1 : k < cur.toList.length := by have := congrArg List.length HC.out; rw [List.length_take, hvl] at this; omega
    simpa using h1
  obtain ⟨u0, hu0⟩ := Option.isSome_iff_exists.1 hcs
  rw [hu0] at hcl
  clear hcs hu0 SKf YB
  have hgw : w.heap.size ≤ gb := by omega
  have ZD : Hid (Off AD 16 (some gb)) := fun a ha _ e => by injection e with e; have := DLT.out a ha; omega
  go_wp2_with fail
  have hS2 := SK.out.put k (.slice A4 16 c4)
  have hI2 : ItemsV 1 encB id _ (some gb) _ (ls.set k l2) := (itemsV_put SI.out k (.slice A4 16 c4)).set1 k l2 A4 16 c4 (by rw [HLs.out]; exact hk2) (ZB.out.kept (grown_put (World.grownBy.refl _ _) k _) ZO.out) ZO.out
  have hcur2 := take_set_cells (u := .slice A4 16 c4) HC.out hk2
  have hR2 := blk_rd hS2 hcur2 (by simpa using hvl) hc1 HC2.out
  have SL := Lib.hid (hI2.lists hR2)
  have DN := Lib.hid (DB.out.kept (grown_put (World.grownBy.refl w8 _) k (.slice A4 16 c4)) ZD.out)
  have PN := Lib.hid (PB.out.kept (grown_put (World.grownBy.refl w8 _) k (.slice A4 16 c4)) ZP.out)
  have QN := Lib.hid (QB.out.kept (grown_put (World.grownBy.refl w8 _) k (.slice A4 16 c4)) ZQ.out)
  have RN := Lib.hid (R8.out.setCell (p := ⟨gb, k, none⟩) hgw (.slice A4 16 c4))
  clear hS2 hI2 hcur2 hR2 SI SK ZB DB ZO hcl hcf PB QB ZP ZQ
  generalize w8.setCell ⟨gb, k, none⟩ (.slice A4 16 c4) = wn at *
  have hsn := RN.out.size
  refine (recover_ok DN.out SL.out hg2.out).mono ?_
  rintro e w9 ⟨AX, cX, rfl, hv, hb⟩
  have hbx : Below wn.heap.size wn w9 := below_via (by go_grown) hb (by first | (simp; done) | (simp; omega))
  have DN := Lib.hid (DN.out.stays hbx)
  have SL := Lib.hid (SL.out.stays hbx)
  have PN := Lib.hid (PN.out.stays hbx)
  have QN := Lib.hid (QN.out.stays hbx)
  have XB := Lib.hid hv
  have R9 := Lib.hid (RN.out.trans (hbx.mono hsn))
  have hs9 := R9.out.size
  clear hb hbx hv
  clear RN
  go_wp2_with fail
  refine (refRecover_ok DN.out SL.out hg2.out).mono ?_
  rintro e w10 ⟨AY, cY, rfl, hv, hb⟩
  have hbx : Below w9.heap.size w9 w10 := below_via (by go_grown) hb (by first | (simp; done) | (simp; omega))
  have DN := Lib.hid (DN.out.stays hbx)
  have SL := Lib.hid (SL.out.stays hbx)
  have PN := Lib.hid (PN.out.stays hbx)
  have QN := Lib.hid (QN.out.stays hbx)
  have XB := Lib.hid (XB.out.stays hbx)
  have YB := Lib.hid hv
  have R10 := Lib.hid (R9.out.trans (hbx.mono hs9))
  have hs10 := R10.out.size
  clear hb hbx hv
  clear R9
  go_wp2_with fail
  refine (oneKnown _).mono ?_
  rintro e w11 ⟨rfl, hb⟩
  have hbx : Below w10.heap.size w10 w11 := below_via (by go_grown) hb (by first | (simp; done) | (simp; omega))
  have DN := Lib.hid (DN.out.stays hbx)
  have SL := Lib.hid (SL.out.stays hbx)
  have PN := Lib.hid (PN.out.stays hbx)
  have QN := Lib.hid (QN.out.stays hbx)
  have XB := Lib.hid (XB.out.stays hbx)
  have YB := Lib.hid (YB.out.stays hbx)
  have R11 := Lib.hid (R10.out.trans (hbx.mono hs10))
  have hs11 := R11.out.size
  clear hb hbx 
  clear R10
  go_wp2_with fail
  refine (refSame_true PN.out QN.out rfl).mono ?_
  rintro e w12 ⟨rfl, rfl⟩
  go_wp2_with fail
  refine (refSame_true XB.out YB.out rfl).mono ?_
  rintro e w12 ⟨rfl, rfl⟩
  go_wp2
  go_ret
  exact ⟨rfl, R11.out⟩
end Go.Proofs.Ytahphlcahaheiaa
