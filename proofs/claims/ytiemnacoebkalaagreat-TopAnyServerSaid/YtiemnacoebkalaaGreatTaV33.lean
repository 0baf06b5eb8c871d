import Derived.Test.YtiemnacoebkalaaGreatTaV32
set_option linter.all false
set_option maxRecDepth 100000
set_option maxHeartbeats 4000000
namespace Go.Proofs.YtiemnacoebkalaaGreat
open Go Go.RowKit
structure JarT where
 up : List UInt8
 dn : List UInt8
 cs : List (List UInt8)
 last : List UInt8
 net : Nat
 sent : Nat
def JarV (w : World) (v : Value) (j : JarT) : Prop := ∃ U cu D cd AC nC cC AL nL cL, v = .agg #[.slice U 32 cu, .slice D 32 cd, .slice AC nC cC, .slice AL nL cL, .int .i64 (j.net : Int), .int .i64 (j.sent : Int)] ∧ Bytes w U 32 cu j.up ∧ Bytes w D 32 cd j.dn ∧ Lists w AC nC cC j.cs ∧ Bytes w AL nL cL j.last
theorem JarV.stays {w w' : World} {v : Value} {j : JarT} (h : JarV w v j) (hb : Below w.heap.size w w') : JarV w' v j := by
 obtain ⟨U, cu, D, cd, AC, nC, cC, AL, nL, cL, e, h1, h2, h3, h4⟩ := h; exact ⟨U, cu, D, cd, AC, nC, cC, AL, nL, cL, e, h1.stays hb, h2.stays hb, h3.stays hb, h4.stays hb⟩
instance {w w' : World} {v : Value} {j : JarT} : QStay (JarV w v j) w w' (JarV w' v j) := ⟨fun h hb => JarV.stays h hb⟩
structure JarT.ok (j : JarT) : Prop where
 len : j.cs.length <= 8
 last : j.last = [] ∨ j.last.length = 104
 out : j.last ∉ j.cs
 each : ∀ x ∈ j.cs, x.length = 104
 nd : j.cs.Nodup
 net : j.net <= 1000
 sent : j.sent <= 1000
theorem infoJar : (Tryz.prog.info? 36).map (·.size) = some 6 := by kernel_rfl
theorem paired_any (U D : Option Addr) (cu cd : Nat) (w : World) : Calls Tryz.prog 30 #[.agg #[.slice U 32 cu, .slice D 32 cd]] w fun e w' => e = .returned (.bool true) ∧ Below w.heap.size w w' := by
 go_enter Tryz.func30, Tryz.ntmps30
 go_wp2; go_ret; exact ⟨rfl, below_alloc1 _ _⟩
theorem jcookie_any (A : Option Addr) (n c : Nat) (w : World) : Calls Tryz.prog 33 #[.slice A n c] w fun e w' => e = .returned (.bool (decide (n = 104))) ∧ w = w' := by
 go_enter Tryz.func33, Tryz.ntmps33
 go_wp2; go_ret; refine ⟨?_, rfl⟩
 by_cases h : n = 104
 · subst h; rfl
 · have h2 : ¬ (n : Int) = 104 := by omega
   simp [h, h2]
theorem jhas1_any (A : Option Addr) (n c : Nat) (l : List UInt8) (A2 : Option Addr) (n2 c2 : Nat) (l2 : List UInt8) (b_ : Nat) (w : World) (h1 : Bytes w A n c l) (h2 : Bytes w A2 n2 c2 l2) (hB : Blk w b_ 27 #[.slice A2 n2 c2]) : Calls Tryz.prog 127 #[.slice A n c, .pointer (some ⟨b_, 0, none⟩)] w fun e w' => e = .returned (.bool (decide (l = l2))) ∧ Below w.heap.size w w' := by
 have HS := qq (octSame_any A n c l A2 n2 c2 l2 w h1 h2); have k0 := hB.cell 0; clear h1 h2
 go_enter Tryz.func127, Tryz.ntmps127
 go_wp2_with fail
 refine HS.out.mono ?_; rintro e y ⟨rfl, rfl⟩; go_wp2; go_ret; exact ⟨rfl, Below.refl _ _⟩
theorem jhas_any (A : Option Addr) (n c : Nat) (ls : List (List UInt8)) (A2 : Option Addr) (n2 c2 : Nat) (l2 : List UInt8) (w : World) (h1 : Lists w A n c ls) (h2 : Bytes w A2 n2 c2 l2) : Calls Tryz.prog 85 #[.slice A n c, .slice A2 n2 c2] w fun e w' => e = .returned (.bool (decide (l2 ∈ ls))) ∧ Below w.heap.size w w' := by
 have hx := below_alloc1 w (.cells #[.slice A2 n2 c2] 27); have hB : Blk (w.alloc (.cells #[.slice A2 n2 c2] 27)) w.heap.size 27 #[.slice A2 n2 c2] := Blk.new _ _ _; have HH := hasL_has1 (.pointer (some ⟨w.heap.size, 0, none⟩)) (fun l => decide (l = l2)) A n c ls _ (h1.stays hx) (fun W A n c l hW hl => jhas1_any A n c l A2 n2 c2 l2 w.heap.size W hl ((h2.stays hx).stays hW) (hB.stays hW)); have e1 : (ls.any fun l => decide (l = l2)) = decide (l2 ∈ ls) := by
  by_cases h : l2 ∈ ls
  · rw [decide_eq_true h, List.any_eq_true]; exact ⟨l2, h, by simp⟩
  · rw [decide_eq_false h, List.any_eq_false]; intro x hx2; simp; rintro rfl; exact h hx2
 rw [e1] at HH; have HH := qq HH; have HX := qq hx; clear hx hB h1 h2 e1
 go_enter Tryz.func85, Tryz.ntmps85
 go_wp2_with fail
 refine HH.out.mono ?_; rintro e y ⟨rfl, hb⟩; have HB := qt HX hb; clear hb HH; go_wp2; go_ret; exact ⟨rfl, HB.out⟩
theorem Lists.cutTo {w : World} {A : Option Addr} {n c : Nat} {ls : List (List UInt8)} (h : Lists w A n c ls) (k : Nat) (hk : k <= n) : Lists w A k c (ls.take k) := by
 obtain ⟨vs, h1, h2, h3⟩ := h; have hvl : vs.length = n := by have := h1.1; omega
 refine ⟨vs.take k, ⟨by rw [List.length_take, hvl, Nat.min_eq_left hk, Nat.mul_one], Nat.le_trans hk h1.2.1, h1.2.2.1, fun i u hu => ?_⟩, by rw [List.length_take, List.length_take, h2], fun i l hl => ?_⟩
 · rw [List.getElem?_take] at hu
   split at hu
   · exact h1.2.2.2 i u hu
   · cases hu
 · rw [List.getElem?_take] at hl
   split at hl
   · obtain ⟨A', n', c', e1, e2⟩ := h3 i l hl; refine ⟨A', n', c', ?_, e2⟩; rw [List.getElem?_take, if_pos (by assumption)]; exact e1
   · cases hl
theorem nodup_take {ls : List (List UInt8)} (h : ls.Nodup) {k : Nat} (hk : k < ls.length) : ls[k] ∉ ls.take k := by
 intro hm; obtain ⟨i, hi, e⟩ := List.mem_iff_getElem.1 hm; rw [List.length_take] at hi; rw [List.getElem_take] at e; exact (List.pairwise_iff_getElem.1 h) i k (by omega) hk (by omega) e
theorem infoPr2 : (Tryz.prog.info? 29).map (·.size) = some 2 := by kernel_rfl
theorem jvalid_any (v : Value) (j : JarT) (w : World) (hj : JarV w v j) (ho : j.ok) : Calls Tryz.prog 37 #[v] w fun e w' => e = .returned (.bool true) ∧ Below w.heap.size w w' := by
 obtain ⟨U, cu, D, cd, AC, nC, cC, AL, nL, cL, rfl, _, _, hL, hLS⟩ := hj; have HO := qq ho; have HL := qq hL; have HLS := qq hLS; have hn8 : nC <= 8 := by rw [<- hL.len]; exact ho.len
 have hcap := hL.cap; have hle := hL.le; obtain ⟨net, enet⟩ : ∃ net, j.net = net := ⟨_, rfl⟩; obtain ⟨sent, esent⟩ : ∃ sent, j.sent = sent := ⟨_, rfl⟩; have hnet := ho.net; have hsent := ho.sent; rw [enet] at hnet ⊢; rw [esent] at hsent ⊢; have hlast : nL = 0 ∨ nL = 104 := by
  rcases ho.last with h | h
  · left; rw [<- hLS.len, h]; rfl
  · right; rw [<- hLS.len]; exact h
 have i8 : ¬ (8 : Int) < (nC : Int) := by omega
 have i1 : ¬ (net : Int) < 0 := by omega
 have i2 : ¬ (sent : Int) < 0 := by omega
 have i3 : ¬ (1099511627776 : Int) < (sent : Int) := by omega
 clear hL hLS ho enet esent
 go_enter Tryz.func37, Tryz.ntmps37
 go_upto_region 1 with fail
 obtain ⟨wz, j_, ewz, ej_⟩ : ∃ wz j_, wz = w.alloc (.cells #[.slice U 32 cu, .slice D 32 cd, .slice AC nC cC, .slice AL nL cL, .int .i64 (net : Int), .int .i64 (sent : Int)] 36) ∧ j_ = w.heap.size := ⟨_, _, rfl, rfl⟩; have hb : Below w.heap.size w wz := by rw [ewz]; exact below_alloc1 _ _
 have BJ := qq (show Blk wz j_ 36 #[.slice U 32 cu, .slice D 32 cd, .slice AC nC cC, .slice AL nL cL, .int .i64 (net : Int), .int .i64 (sent : Int)] by rw [ewz, ej_]; exact Blk.new _ _ _); rw [<- ewz, <- ej_]; have HL := qs HL hb; have HLS := qs HLS hb; have RW := qq hb; clear hb ewz ej_
 go_wp2_with (refine wpList_load_part rfl 29 _ rfl j_ 0 36 [] [.slice U 32 cu, .slice D 32 cd] [.slice AC nC cC, .slice AL nL cL, .int .i64 (net : Int), .int .i64 (sent : Int)] _ rfl BJ.out rfl Tryz.underlying29 rfl infoPr2 ?_)
 refine (paired_any U D cu cd _).mono ?_; rintro e y1 ⟨rfl, hb⟩; have BJ := qs BJ hb; have HL := qs HL hb; have HLS := qs HLS hb; have RW := qt RW hb; have k0 := BJ.out.cell 0; have k1 := BJ.out.cell 1; have k2 := BJ.out.cell 2; have k3 := BJ.out.cell 3; have k4 := BJ.out.cell 4; have k5 := BJ.out.cell 5; clear hb; have HO1 : Hid (decide (j.last ∈ j.cs) = false) := decide_eq_false HO.out.out; rcases hlast with rfl | rfl
 · skip
   go_wp2_with fail
   refine (jhas_any AC nC cC j.cs AL _ cL j.last _ HL.out HLS.out).mono ?_; rintro e y2 ⟨rfl, hb⟩; rw [HO1.out]; have BJ := qs BJ hb; have HL := qs HL hb; have HLS := qs HLS hb; have RW := qt RW hb; clear hb k0 k1 k2 k3 k4 k5; have k2 := BJ.out.cell 2; have k4 := BJ.out.cell 4; have k5 := BJ.out.cell 5; go_wp2
   go_loopw [52] (fun i wr => ∃ (k : Nat), k <= nC ∧ i = .int .i64 k ∧ Below y2.heap.size y2 wr) (fun i _ => nC - (intOf i).toNat)
   case atStart => exact ⟨0, Nat.zero_le _, rfl, Below.refl _ _⟩
   case round =>
    clear k2 k4 k5; obtain ⟨k, hk, rfl, hbr⟩ := hrel; have HBR := qq hbr
    by_cases hkn : k < nC
    · have hki : (k : Int) < (nC : Int) := by omega
      obtain ⟨b5, o5, A5, n5, c5, eA, hc0, hy⟩ := (HL.out.stays hbr).at_ hkn; have hl : k < j.cs.length := by rw [HL.out.len]; exact hkn
      rw [listAt_get hl] at hy; obtain rfl : n5 = 104 := by rw [<- hy.len]; exact HO.out.each _ (List.getElem_mem hl)
      have HN5 : Hid (decide (j.cs[k] ∈ j.cs.take k) = false) := decide_eq_false (nodup_take HO.out.nd hl); have k2 := (BJ.out.stays hbr).cell 2; have HH := qq (jhas_any AC k cC (j.cs.take k) A5 104 c5 _ wr ((HL.out.stays hbr).cutTo k hk) hy); have i5 : ¬ (cC : Int) < (k : Int) := by omega
      have i6 : (k : Int) <= (cC : Int) := by omega
      subst eA; clear hy hbr
      go_wp2_with fail
      refine (jcookie_any A5 104 c5 _).mono ?_; rintro e y3 ⟨rfl, rfl⟩
      go_wp2_with fail
      refine HH.out.mono ?_; rintro e y4 ⟨rfl, hb⟩; rw [HN5.out]; have HBR := qt HBR hb; clear hb HH k2 hc0; go_wp2
      go_roundw
      case rel => exact ⟨k + 1, by omega, by go_num, HBR.out⟩
      case measure => simp [intOf]; omega
    · obtain rfl : k = nC := by omega
      clear hkn; go_wp2; go_ret; exact ⟨rfl, RW.out.trans (hbr.mono RW.out.size)⟩
 · go_wp2_with fail
   refine (jcookie_any AL 104 cL _).mono ?_; rintro e y9 ⟨rfl, rfl⟩
   go_wp2_with fail
   refine (jhas_any AC nC cC j.cs AL _ cL j.last _ HL.out HLS.out).mono ?_; rintro e y2 ⟨rfl, hb⟩; rw [HO1.out]; have BJ := qs BJ hb; have HL := qs HL hb; have RW := qt RW hb; clear hb k0 k1 k2 k3 k4 k5; have k2 := BJ.out.cell 2; have k4 := BJ.out.cell 4; have k5 := BJ.out.cell 5; go_wp2
   go_loopw [52] (fun i wr => ∃ (k : Nat), k <= nC ∧ i = .int .i64 k ∧ Below y2.heap.size y2 wr) (fun i _ => nC - (intOf i).toNat)
   case atStart => exact ⟨0, Nat.zero_le _, rfl, Below.refl _ _⟩
   case round =>
    clear k2 k4 k5; obtain ⟨k, hk, rfl, hbr⟩ := hrel; have HBR := qq hbr
    by_cases hkn : k < nC
    · have hki : (k : Int) < (nC : Int) := by omega
      obtain ⟨b5, o5, A5, n5, c5, eA, hc0, hy⟩ := (HL.out.stays hbr).at_ hkn; have hl : k < j.cs.length := by rw [HL.out.len]; exact hkn
      rw [listAt_get hl] at hy; obtain rfl : n5 = 104 := by rw [<- hy.len]; exact HO.out.each _ (List.getElem_mem hl)
      have HN5 : Hid (decide (j.cs[k] ∈ j.cs.take k) = false) := decide_eq_false (nodup_take HO.out.nd hl); have k2 := (BJ.out.stays hbr).cell 2; have HH := qq (jhas_any AC k cC (j.cs.take k) A5 104 c5 _ wr ((HL.out.stays hbr).cutTo k hk) hy); have i5 : ¬ (cC : Int) < (k : Int) := by omega
      have i6 : (k : Int) <= (cC : Int) := by omega
      subst eA; clear hy hbr
      go_wp2_with fail
      refine (jcookie_any A5 104 c5 _).mono ?_; rintro e y3 ⟨rfl, rfl⟩
      go_wp2_with fail
      refine HH.out.mono ?_; rintro e y4 ⟨rfl, hb⟩; rw [HN5.out]; have HBR := qt HBR hb; clear hb HH k2 hc0; go_wp2
      go_roundw
      case rel => exact ⟨k + 1, by omega, by go_num, HBR.out⟩
      case measure => simp [intOf]; omega
    · obtain rfl : k = nC := by omega
      clear hkn; go_wp2; go_ret; exact ⟨rfl, RW.out.trans (hbr.mono RW.out.size)⟩
def JarO (w : World) (B : Nat) (v : Value) (j : JarT) : Prop := ∃ U cu D cd AC nC cC AZ nL cL, v = .agg #[.slice U 32 cu, .slice D 32 cd, .slice AC nC cC, .slice AZ nL cL, .int .i64 (j.net : Int), .int .i64 (j.sent : Int)] ∧ w.ownsRow B 5 1 (.slice U 32 cu) 32 (j.up.map byteV) ∧ w.ownsRow B 5 1 (.slice D 32 cd) 32 (j.dn.map byteV) ∧ OwnItems 1 encB id 27 w B AC nC cC j.cs ∧ w.ownsRow B 5 1 (.slice AZ nL cL) nL (j.last.map byteV)
theorem JarO.jar {w : World} {B : Nat} {v : Value} {j : JarT} (h : JarO w B v j) : JarV w v j := by
 obtain ⟨U, cu, D, cd, AC, nC, cC, AZ, nL, cL, e, h1, h2, h3, h4⟩ := h; exact ⟨U, cu, D, cd, AC, nC, cC, AZ, nL, cL, e, own_rd h1, own_rd h2, h3.lists, own_rd h4⟩
theorem jcopied_any (A : Option Addr) (n c : Nat) (ls : List (List UInt8)) (w : World) (hv : Lists w A n c ls) (hn : n <= 1000) (hl : ∀ x ∈ ls, x.length <= 100000) : Calls Tryz.prog 126 #[.slice A n c] w fun e w' => ∃ A' c', e = .returned (.slice A' n c') ∧ OwnItems 1 encB id 27 w' w.heap.size A' n c' ls ∧ Below w.heap.size w w' := by
 obtain ⟨i0, hi, hz0, hz1, hz2⟩ := info_parts infoBytesA; have HV := qq hv; have HL := qq hl; have HN := qq hv.len; have hle := hv.le; have hcap := hv.cap; clear hv hl
 go_enter Tryz.func126, Tryz.ntmps126
 go_wp2
 go_loopw [3, 8] (fun t i wr => ∃ (k co : Nat) (AO : Option Addr), k <= n ∧ i = .int .i64 k ∧ t = .slice AO k co ∧ Hid (OwnItems 1 encB id 27 wr w.heap.size AO k co (ls.take k)) ∧ Below w.heap.size w wr) (fun _ i _ => n - (intOf i).toNat)
 case atStart => exact ⟨0, 0, none, Nat.zero_le _, rfl, rfl, OwnItems.nil _ _, Below.refl _ _⟩
 case round =>
  obtain ⟨k, co, AO, hk, rfl, rfl, HOW, hbr⟩ := hrel; have RW := qq hbr
  by_cases hkn : k < n
  · have hki : (k : Int) < (n : Int) := by omega
    obtain ⟨b5, o5, A5, n5, c5, rfl, hc0, hy⟩ := (HV.out.stays hbr).at_ hkn; have hkl : k < ls.length := by rw [HN.out]; exact hkn
    have HT : Hid (ls.take (k + 1) = ls.take k ++ [listAt ls k]) := by rw [Hid, List.take_succ_eq_append_getElem hkl, listAt_get hkl]
    have hn5 : n5 <= 100000 := by rw [<- hy.len, listAt_get hkl]; exact HL.out _ (List.getElem_mem hkl)
    have HCL := qq (clone_any A5 n5 c5 _ _ hy (by omega)); clear hy hkl hbr
    go_wp2_with fail
    refine HCL.out.mono ?_; rintro e y1 ⟨A6, c6, rfl, ho, hb⟩; have HOLT : Hid (∀ j, (Value.slice AO k co).ownBlock = some j -> j < wr.heap.size) := HOW.out.lt; have HF := qq (Fresh.own ho); have HB6 : Hid (Bytes y1 A6 n5 c6 (listAt ls k)) := own_rd ho; have HOW := qs HOW hb; have RW := qt RW hb; have hbz : w.heap.size <= (y1.alloc (.cells #[.slice A6 n5 c6] 27)).heap.size := by have := RW.out.size; simp; omega
    have hk9 := HOW.out.cap; clear ho hb HCL hc0
    go_wp2_with (at_builtin; refine append_items_at rfl _ _ 30 rfl i0 _ 24 Tryz.underlying30 hi hz0 hz1 hz2 rfl (by decide) rfl (HOW.out.stays ((Below.refl _ _).alloc (Nat.le_refl _) _)) rfl (listAt ls k) rfl (rd_one _ _ _) (by simp [encB, Value.oneCell']) (HB6.out.stays ((Below.refl _ _).alloc (Nat.le_refl _) _)) (Off.fresh HF.out HOLT.out) (by unfold maxLen; omega) (by omega) hbz ?_; intro A8 c8 w8 hown8 hg8 hl8; have HG8 := qq hg8; have HO8 := qq hown8; clear hg8 hl8 hown8)
    have hx := RW.out.trans ((below_alloc1 y1 (.cells #[.slice A6 n5 c6] 27)).mono RW.out.size); have R8 := qq (hx.grown HG8.out hx.size HOW.out.old); rw [<- HT.out] at HO8; clear hx HG8 hbz; go_wp2
    go_roundw
    case rel => exact ⟨k + 1, c8, A8, by omega, by go_num, rfl, HO8.out, R8.out⟩
    case measure => simp [intOf]; omega
  · obtain rfl : k = n := by omega
    clear hkn; go_wp2; go_ret; have h9 := HOW.out; rw [List.take_of_length_le (by rw [HN.out]; exact Nat.le_refl _)] at h9; exact ⟨AO, co, rfl, h9, hbr⟩
theorem jclone_any (v : Value) (j : JarT) (w : World) (hj : JarV w v j) (h8 : j.cs.length <= 8) (hl1 : j.last.length <= 104) (hcl : ∀ x ∈ j.cs, x.length <= 100000) : Calls Tryz.prog 84 #[v] w fun e w' => ∃ v', e = .returned v' ∧ JarO w' w.heap.size v' j ∧ Below w.heap.size w w' := by
 obtain ⟨U, cu, D, cd, AC, nC, cC, AZ, nL, cL, rfl, hU, hD, hC, hL⟩ := hj; have hn8 : nC <= 8 := by rw [<- hC.len]; exact h8
 have hl8 : nL <= 104 := by rw [<- hL.len]; exact hl1
 obtain ⟨up, dn, cs, last, net, sent⟩ := j; have HU0 := qq hU; have HD0 := qq hD; have HC0 := qq hC; have HL0 := qq hL; have HCL := qq hcl; clear hU hD hC hL h8 hl1 hcl
 go_enter Tryz.func84, Tryz.ntmps84
 go_upto_region 1 with fail
 obtain ⟨wz, j_, r_, ewz, ej_, er_⟩ : ∃ wz j_ r_, wz = (w.alloc (.cells #[.slice U 32 cu, .slice D 32 cd, .slice AC nC cC, .slice AZ nL cL, .int .i64 (net : Int), .int .i64 (sent : Int)] 36)).alloc (.cells #[.slice none 0 0, .slice none 0 0, .slice none 0 0, .slice none 0 0, .int .i64 0, .int .i64 0] 36) ∧ j_ = w.heap.size ∧ r_ = w.heap.size + 1 := ⟨_, _, _, rfl, rfl, rfl⟩; have hb : Below w.heap.size w wz := by rw [ewz]; exact below_alloc2 _ _ _
 have BJ := qq (show Blk wz j_ 36 #[.slice U 32 cu, .slice D 32 cd, .slice AC nC cC, .slice AZ nL cL, .int .i64 (net : Int), .int .i64 (sent : Int)] by rw [ewz, ej_]; exact blk_new2_0 _ _ _ _ _); have BR := qq (show Blk wz r_ 36 #[.slice none 0 0, .slice none 0 0, .slice none 0 0, .slice none 0 0, .int .i64 0, .int .i64 0] by rw [ewz, er_]; exact blk_new2_1 _ _ _ _ _); have wj_ : w.heap.size <= j_ := by omega
 have wr_ : w.heap.size <= r_ := by omega
 have jr : j_ ≠ r_ := by omega
 rw [<- ewz, <- er_, <- ej_]; have HU := qs HU0 hb; have HD := qs HD0 hb; have RW := qq hb; clear hb ewz ej_ er_; refine mono_start (fun _ => True) [pv (.pointer (some ⟨j_, 0, none⟩)), pv (.pointer (some ⟨j_, 0, none⟩)), pv (.slice U 32 cu), mv (fun v u => ∃ A' c', v = .slice A' 32 c' ∧ u.ownsRow w.heap.size 5 1 (.slice A' 32 c') 32 (up.map byteV)), pv (.pointer (some ⟨j_, 0, none⟩)), pv (.pointer (some ⟨j_, 1, none⟩)), pv (.slice D 32 cd), mv (fun v u => ∃ A' c', v = .slice A' 32 c' ∧ u.ownsRow w.heap.size 5 1 (.slice A' 32 c') 32 (dn.map byteV)), mv (fun v u => ∃ A1 c1 A2 c2, v = .agg #[.slice A1 32 c1, .slice A2 32 c2] ∧ u.ownsRow w.heap.size 5 1 (.slice A1 32 c1) 32 (up.map byteV) ∧ u.ownsRow w.heap.size 5 1 (.slice A2 32 c2) 32 (dn.map byteV)), pv (.pointer (some ⟨j_, 0, none⟩))] (by kernel_rfl) (by kernel_rfl) (fun OPS AV AL K w0 hO hA hL hK hb0 hz => ?_); refine step_pv (d := (some 3)) (hO.out 0 _ rfl) rfl rfl (fun wq hw => ?_) ?_
 · clear hO hA hL hK
   go_simp; try first | with_reducible rfl | assumption | decide
 try simp only [qp, qn]
 refine step_pv (d := (some 4)) (hO.out 1 _ rfl) rfl rfl (fun wq hw => ?_) ?_
 · clear hO hA hL hK
   go_simp; try first | with_reducible rfl | assumption | decide
 try simp only [qp, qn]
 refine step_pg (d := (some 5)) (hO.out 2 _ rfl) rfl rfl (fun wq hw gt => ?_) ?_
 · have hx : Below wz.heap.size wz wq := hb0.trans (hw.mono hb0.size); have k1 := (BJ.out.stays hx).cell 0; clear gt hO hA hL hK
   go_simp; try first | with_reducible rfl | assumption | decide
 try simp only [qp, qn]
 refine step_mc (d := (some 6)) (hO.out 3 _ rfl) rfl rfl (fun wq hw gt => ?_) (fun v_3 x_3 => ?_)
 · have hx : Below wz.heap.size wz wq := hb0.trans (hw.mono hb0.size); refine ⟨_, _, ?_, (clone_any U 32 cu _ _ (HU.out.stays hx) (by omega)).mono (fun e q h => ?_)⟩
   · clear gt hO hA hL hK
     go_simp
   obtain ⟨A', c', rfl, ho, hb⟩ := h; exact ⟨_, rfl, ⟨A', c', rfl, own_more ho (Nat.le_trans RW.out.size hx.size)⟩, hb⟩
 try simp only [qp, qn]
 refine step_pv (d := (some 7)) (hO.out 4 _ rfl) rfl rfl (fun wq hw => ?_) ?_
 · clear hO hA hL hK
   go_simp; try first | with_reducible rfl | assumption | decide
 try simp only [qp, qn]
 refine step_pv (d := (some 8)) (hO.out 5 _ rfl) rfl rfl (fun wq hw => ?_) ?_
 · clear hO hA hL hK
   go_simp; try first | with_reducible rfl | assumption | decide
 try simp only [qp, qn]
 refine step_pg (d := (some 9)) (hO.out 6 _ rfl) rfl rfl (fun wq hw gt => ?_) ?_
 · have hx : Below wz.heap.size wz wq := hb0.trans (hw.mono hb0.size); have k1 := (BJ.out.stays hx).cell 1; clear gt hO hA hL hK
   go_simp; try first | with_reducible rfl | assumption | decide
 try simp only [qp, qn]
 refine step_mc (d := (some 10)) (hO.out 7 _ rfl) rfl rfl (fun wq hw gt => ?_) (fun v_7 x_7 => ?_)
 · have hx : Below wz.heap.size wz wq := hb0.trans (hw.mono hb0.size); refine ⟨_, _, ?_, (clone_any D 32 cd _ _ (HD.out.stays hx) (by omega)).mono (fun e q h => ?_)⟩
   · clear gt hO hA hL hK
     go_simp
   obtain ⟨A', c', rfl, ho, hb⟩ := h; exact ⟨_, rfl, ⟨A', c', rfl, own_more ho (Nat.le_trans RW.out.size hx.size)⟩, hb⟩
 try simp only [qp, qn]
 refine step_mv (d := (some 11)) (hO.out 8 _ rfl) rfl rfl (fun wq hw gt => ?_) (fun v_8 x_8 => ?_)
 · have hx : Below wz.heap.size wz wq := hb0.trans (hw.mono hb0.size); obtain ⟨⟨A1, c1, rfl, h1⟩, hb1⟩ := (gt 3 (hA.out 8 3 (by kernel_rfl))); obtain ⟨⟨A2, c2, rfl, h2⟩, hb2⟩ := (gt 7 (hA.out 8 7 (by kernel_rfl))); refine ⟨_, _, ?_, ⟨A1, c1, A2, c2, rfl, own_below h1 hb1, own_below h2 hb2⟩, Below.refl _ _⟩; clear gt hO hA hL hK
   go_simp; try with_reducible rfl
 try simp only [qp, qn]
 refine step_pv (d := (some 12)) (hO.out 9 _ rfl) rfl rfl (fun wq hw => ?_) ?_
 · clear hO hA hL hK
   go_simp; try first | with_reducible rfl | assumption | decide
 try simp only [qp, qn]
 refine fun wq hw gt => hK.out _ _ ?_
 obtain ⟨⟨U2, cu2, D2, cd2, rfl, hu2, hd2⟩, hb2⟩ := (gt 8 (hL.out 8 (by kernel_rfl))); have hx : Below wz.heap.size wz wq := hb0.trans (hw.mono hb0.size); clear gt hO hA hL hK; have BJ := qs BJ hx; have BR := qs BR hx; have RW := qt RW hx; have hu2 := own_below hu2 hb2; have hd2 := own_below hd2 hb2; clear hx hw hz hb0 hb2; refine take_store_part (j := 10) rfl rfl (by kernel_rfl) rfl 29 _ _ rfl j_ 0 36 [] [.slice U 32 cu, .slice D 32 cd] [.slice AC nC cC, .slice AZ nL cL, .int .i64 (net : Int), .int .i64 (sent : Int)] [.slice U2 32 cu2, .slice D2 32 cd2] rfl rfl BJ.out rfl rfl infoPr2 (by simp [Value.oneCell']) (fun _ _ => trivial) (fun y2 D9 G9 => ?_); try simp only [qp, qn]
 refine wpAnyH_done (by kernel_rfl) ?_ _; have BJ2 : Hid (Blk y2 j_ 36 #[.slice U2 32 cu2, .slice D2 32 cd2, .slice AC nC cC, .slice AZ nL cL, .int .i64 (net : Int), .int .i64 (sent : Int)]) := D9; have HU2 := qq (hu2.kept G9 (.inr (own_ne hu2 BJ.out (by decide)))); have HD2 := qq (hd2.kept G9 (.inr (own_ne hd2 BJ.out (by decide)))); have BR := qq (BR.out.grown G9 (by simp; omega)); have RW := qq (RW.out.grown G9 RW.out.size (fun k hk => by cases hk; exact wj_)); have HC := qq (HC0.out.stays RW.out); have HL := qq (HL0.out.stays RW.out); clear hu2 hd2 G9 D9 BJ; have BJ := BJ2; clear BJ2
 go_wp2_with fail
 refine mono_start (fun _ => True) [pv (.pointer (some ⟨j_, 2, none⟩)), pv (.slice AC nC cC), mv (fun v u => ∃ A' c', v = .slice A' nC c' ∧ OwnItems 1 encB id 27 u w.heap.size A' nC c' cs), pv (.pointer (some ⟨j_, 3, none⟩)), pv (.slice AZ nL cL), mv (fun v u => ∃ A' c', v = .slice A' nL c' ∧ u.ownsRow w.heap.size 5 1 (.slice A' nL c') nL (last.map byteV)), pv (.pointer (some ⟨j_, 2, none⟩))] (by kernel_rfl) (by kernel_rfl) (fun OPS AV AL K w0 hO hA hL hK hb0 hz => ?_); refine step_pv (d := (some 13)) (hO.out 0 _ rfl) rfl rfl (fun wq hw => ?_) ?_
 · clear hO hA hL hK
   go_simp; try first | with_reducible rfl | assumption | decide
 try simp only [qp, qn]
 refine step_pg (d := (some 14)) (hO.out 1 _ rfl) rfl rfl (fun wq hw gt => ?_) ?_
 · have hx : Below y2.heap.size y2 wq := hb0.trans (hw.mono hb0.size); have k1 := (BJ.out.stays hx).cell 2; clear gt hO hA hL hK
   go_simp; try first | with_reducible rfl | assumption | decide
 try simp only [qp, qn]
 refine step_mc (d := (some 15)) (hO.out 2 _ rfl) rfl rfl (fun wq hw gt => ?_) (fun v_b2 x_b2 => ?_)
 · have hx : Below y2.heap.size y2 wq := hb0.trans (hw.mono hb0.size); refine ⟨_, _, ?_, (jcopied_any AC nC cC cs _ (HC.out.stays hx) (by omega) HCL.out).mono (fun e q h => ?_)⟩
   · clear gt hO hA hL hK
     go_simp
   obtain ⟨A', c', rfl, ho, hb⟩ := h; exact ⟨_, rfl, ⟨A', c', rfl, ho.more (Nat.le_trans RW.out.size hx.size)⟩, hb⟩
 try simp only [qp, qn]
 refine step_pv (d := (some 16)) (hO.out 3 _ rfl) rfl rfl (fun wq hw => ?_) ?_
 · clear hO hA hL hK
   go_simp; try first | with_reducible rfl | assumption | decide
 try simp only [qp, qn]
 refine step_pg (d := (some 17)) (hO.out 4 _ rfl) rfl rfl (fun wq hw gt => ?_) ?_
 · have hx : Below y2.heap.size y2 wq := hb0.trans (hw.mono hb0.size); have k1 := (BJ.out.stays hx).cell 3; clear gt hO hA hL hK
   go_simp; try first | with_reducible rfl | assumption | decide
 try simp only [qp, qn]
 refine step_mc (d := (some 18)) (hO.out 5 _ rfl) rfl rfl (fun wq hw gt => ?_) (fun v_b5 x_b5 => ?_)
 · have hx : Below y2.heap.size y2 wq := hb0.trans (hw.mono hb0.size); refine ⟨_, _, ?_, (clone_any AZ nL cL _ _ (HL.out.stays hx) (by omega)).mono (fun e q h => ?_)⟩
   · clear gt hO hA hL hK
     go_simp
   obtain ⟨A', c', rfl, ho, hb⟩ := h; exact ⟨_, rfl, ⟨A', c', rfl, own_more ho (Nat.le_trans RW.out.size hx.size)⟩, hb⟩
 try simp only [qp, qn]
 refine step_pv (d := (some 19)) (hO.out 6 _ rfl) rfl rfl (fun wq hw => ?_) ?_
 · clear hO hA hL hK
   go_simp; try first | with_reducible rfl | assumption | decide
 try simp only [qp, qn]
 refine fun wq hw gt => hK.out _ _ ?_
 obtain ⟨⟨A5, c5, rfl, ho5⟩, hb5⟩ := (gt 2 (hL.out 2 (by kernel_rfl))); obtain ⟨⟨A6, c6, rfl, ho6⟩, hb6⟩ := (gt 5 (hL.out 5 (by kernel_rfl))); have hx : Below y2.heap.size y2 wq := hb0.trans (hw.mono hb0.size); clear gt hO hA hL hK; have BJ := qs BJ hx; have BR := qs BR hx; have RW := qt RW hx; have HU2 := qq (own_below HU2.out hx); have HD2 := qq (own_below HD2.out hx); have ho5 := ho5.stays hb5; have ho6 := own_below ho6 hb6; clear hx hw hz hb0 hb5 hb6; have f2 := BJ.out.frozen 2; have k2 := BJ.out.cell 2; refine take_do (j := 7) (d := none) (v := undef) (w2 := wq.setCell ⟨j_, 2, none⟩ (.slice A5 nC c5)) rfl rfl (by kernel_rfl) rfl (Or.inr ⟨rfl, by go_simp; try with_reducible rfl⟩) trivial ?_; try simp only [qp, qn]
 have G9 : wq.grownBy (wq.setCell ⟨j_, 2, none⟩ (.slice A5 nC c5)) (some j_) := grown_put (World.grownBy.refl _ _) 2 _; have BJ3 := qq (BJ.out.put 2 (.slice A5 nC c5)); have HU2 := qq (HU2.out.kept G9 (.inr (own_ne HU2.out BJ.out (by decide)))); have HD2 := qq (HD2.out.kept G9 (.inr (own_ne HD2.out BJ.out (by decide)))); have ho5 := ho5.keptB BJ.out (by decide) rfl G9; have ho6 := ho6.kept G9 (.inr (own_ne ho6 BJ.out (by decide))); have BR := qq (BR.out.grown G9 (by simp; omega)); have RW := qq (RW.out.grown G9 RW.out.size (fun k hk => by cases hk; exact wj_)); obtain ⟨y3, hy3⟩ : ∃ y3, wq.setCell ⟨j_, 2, none⟩ (.slice A5 nC c5) = y3 := ⟨_, rfl⟩; rw [hy3] at BJ3 HU2 HD2 ho5 ho6 BR RW ⊢; clear hy3 G9 BJ f2 k2; refine take_do (j := 8) (d := some 20) (v := .pointer (some ⟨j_, 3, none⟩)) (w2 := y3) rfl rfl (by kernel_rfl) rfl (Or.inl (by go_simp; try with_reducible rfl)) trivial ?_; try simp only [qp, qn]
 have f3 := BJ3.out.frozen 3; have k3 := BJ3.out.cell 3; refine take_do (j := 9) (d := none) (v := undef) (w2 := y3.setCell ⟨j_, 3, none⟩ (.slice A6 nL c6)) rfl rfl (by kernel_rfl) rfl (Or.inr ⟨rfl, by go_simp; try with_reducible rfl⟩) trivial ?_; try simp only [qp, qn]
 refine wpAnyH_done (by kernel_rfl) ?_ _; have G9 : y3.grownBy (y3.setCell ⟨j_, 3, none⟩ (.slice A6 nL c6)) (some j_) := grown_put (World.grownBy.refl _ _) 3 _; have BJ4 := qq (BJ3.out.put 3 (.slice A6 nL c6)); have HU2 := qq (HU2.out.kept G9 (.inr (own_ne HU2.out BJ3.out (by decide)))); have HD2 := qq (HD2.out.kept G9 (.inr (own_ne HD2.out BJ3.out (by decide)))); have ho5 := ho5.keptB BJ3.out (by decide) rfl G9; have ho6 := ho6.kept G9 (.inr (own_ne ho6 BJ3.out (by decide))); have BR := qq (BR.out.grown G9 (by simp; omega)); have RW := qq (RW.out.grown G9 RW.out.size (fun k hk => by cases hk; exact wj_)); obtain ⟨y4, hy4⟩ : ∃ y4, y3.setCell ⟨j_, 3, none⟩ (.slice A6 nL c6) = y4 := ⟨_, rfl⟩; rw [hy4] at BJ4 HU2 HD2 ho5 ho6 BR RW ⊢; have BJ : Hid (Blk y4 j_ 36 #[.slice U2 32 cu2, .slice D2 32 cd2, .slice A5 nC c5, .slice A6 nL c6, .int .i64 (net : Int), .int .i64 (sent : Int)]) := BJ4; have HO5 := qq ho5; have HO6 := qq ho6; clear hy4 G9 BJ3 f3 k3 ho5 ho6 BJ4
 go_wp2_with (first
  | (refine wpList_load_part rfl 36 _ rfl j_ 0 36 [] [.slice U2 32 cu2, .slice D2 32 cd2, .slice A5 nC c5, .slice A6 nL c6, .int .i64 (net : Int), .int .i64 (sent : Int)] [] _ rfl BJ.out rfl Tryz.underlying36 rfl infoJar ?_)
  | (refine wpList_store_part rfl 36 _ _ rfl r_ 0 36 [] [.slice none 0 0, .slice none 0 0, .slice none 0 0, .slice none 0 0, .int .i64 0, .int .i64 0] [] [.slice U2 32 cu2, .slice D2 32 cd2, .slice A5 nC c5, .slice A6 nL c6, .int .i64 (net : Int), .int .i64 (sent : Int)] rfl rfl BR.out rfl rfl infoJar (by simp [Value.oneCell']) ?_; intro y9 D9 G9; rw [List.append_nil, List.nil_append] at D9))
 refine bodyPost_ret (results_whole rfl _ _ r_ _ _ _ rfl D9 Tryz.underlying36 rfl infoJar) rfl ⟨_, rfl, ⟨U2, cu2, D2, cd2, A5, nC, c5, A6, nL, c6, rfl, HU2.out.kept G9 (.inr (own_ne HU2.out BR.out (by decide))), HD2.out.kept G9 (.inr (own_ne HD2.out BR.out (by decide))), HO5.out.keptB BR.out (by decide) rfl G9, HO6.out.kept G9 (.inr (own_ne HO6.out BR.out (by decide)))⟩, RW.out.grown G9 RW.out.size (fun k hk => by cases hk; exact wr_)⟩
theorem own_neO {α : Type} {sz : Nat} {enc : α -> Option Addr -> Nat -> Nat -> List Value} {dat : α -> List UInt8} {w : World} {B B2 e1 e2 s1 n1 n c : Nat} {A : Option Addr} {v1 : Value} {xs : List Value} {ys : List α} (h1 : w.ownsRow B e1 s1 v1 n1 xs) (h2 : OwnItems sz enc dat e2 w B2 A n c ys) (hne : e1 ≠ e2) : v1.ownBlock = none ∨ v1.ownBlock ≠ (Value.slice A n c).ownBlock := by
 obtain ⟨vs, h2, _⟩ := h2; rcases h1.2 with ⟨rfl, _⟩ | ⟨g, cap, cur, rfl, _, hg, _⟩
 · exact .inl rfl
 · rcases h2.2 with ⟨e, _⟩ | ⟨g2, cap2, cur2, e, _, hg2, _⟩
   · rw [e]; exact .inr (by simp [Value.ownBlock])
   · rw [e]; refine .inr (fun h => ?_); have h3 : g = g2 := by simpa [Value.ownBlock] using h
     subst h3; rw [hg] at hg2; injection hg2 with hg2
     injection hg2 with _ h4
     exact hne h4
def addC (last : List UInt8) (cs : List (List UInt8)) (b : List UInt8) : List (List UInt8) := if cs.length < 8 ∧ b ∉ cs ∧ last ≠ b then cs ++ [b] else cs
def addL (last : List UInt8) (cs bs : List (List UInt8)) : List (List UInt8) := bs.foldl (addC last) cs
theorem addL_step (last : List UInt8) (cs bs : List (List UInt8)) (k : Nat) (h : k < bs.length) : addL last cs (bs.take (k + 1)) = addC last (addL last cs (bs.take k)) (listAt bs k) := by
 unfold addL; rw [List.take_succ_eq_append_getElem h, List.foldl_append, listAt_get h]
 rfl
theorem jadded_any (v : Value) (j : JarT) (A : Option Addr) (n c : Nat) (bs : List (List UInt8)) (w : World) (hj : JarV w v j) (h8 : j.cs.length <= 8) (hl1 : j.last.length <= 104) (hcl : ∀ x ∈ j.cs, x.length <= 100000) (hb : Lists w A n c bs) (hn : n <= 1000) (hbl : ∀ x ∈ bs, x.length <= 100000) :
    Calls Tryz.prog 34 #[v, .slice A n c] w fun e w' => ∃ v', e = .returned v' ∧ JarO w' w.heap.size v' { j with cs := addL j.last j.cs bs } ∧ Below w.heap.size w w' := by
 obtain ⟨i0, hi, hz0, hz1, hz2⟩ := info_parts infoBytesA; have hj' := hj; obtain ⟨U0, cu0, D0, cd0, AC, nC, cC, AZ0, nL0, cL0, rfl, _⟩ := hj'; have HJ0 := qq hj; have HB := qq hb; have HBL := qq hbl; have hle := hb.le; have hcap := hb.cap; have HN := qq hb.len; obtain ⟨up, dn, cs, last, net, sent⟩ := j; have HPRE := qq (show cs.length <= 8 ∧ last.length <= 104 ∧ ∀ x ∈ cs, x.length <= 100000 from ⟨h8, hl1, hcl⟩); clear hj hb hbl h8 hl1 hcl
 go_enter Tryz.func34, Tryz.ntmps34
 go_upto_region 1 with fail
 obtain ⟨wz, j_, r_, ewz, ej_, er_⟩ : ∃ wz j_ r_, wz = (w.alloc (.cells #[.slice U0 32 cu0, .slice D0 32 cd0, .slice AC nC cC, .slice AZ0 nL0 cL0, .int .i64 (net : Int), .int .i64 (sent : Int)] 36)).alloc (.cells #[.slice none 0 0, .slice none 0 0, .slice none 0 0, .slice none 0 0, .int .i64 0, .int .i64 0] 36) ∧ j_ = w.heap.size ∧ r_ = w.heap.size + 1 := ⟨_, _, _, rfl, rfl, rfl⟩; have hb : Below w.heap.size w wz := by rw [ewz]; exact below_alloc2 _ _ _
 have BJ := qq (show Blk wz j_ 36 #[.slice U0 32 cu0, .slice D0 32 cd0, .slice AC nC cC, .slice AZ0 nL0 cL0, .int .i64 (net : Int), .int .i64 (sent : Int)] by rw [ewz, ej_]; exact blk_new2_0 _ _ _ _ _); have BR := qq (show Blk wz r_ 36 #[.slice none 0 0, .slice none 0 0, .slice none 0 0, .slice none 0 0, .int .i64 0, .int .i64 0] by rw [ewz, er_]; exact blk_new2_1 _ _ _ _ _); have wr_ : w.heap.size <= r_ := by omega
 rw [<- ewz, <- er_, <- ej_]; have RW := qq hb; clear hb ewz ej_ er_
 go_wp2_with (refine wpList_load_part rfl 36 _ rfl j_ 0 36 [] [.slice U0 32 cu0, .slice D0 32 cd0, .slice AC nC cC, .slice AZ0 nL0 cL0, .int .i64 (net : Int), .int .i64 (sent : Int)] [] _ rfl BJ.out rfl Tryz.underlying36 rfl infoJar ?_)
 refine (jclone_any _ ⟨up, dn, cs, last, net, sent⟩ _ (HJ0.out.stays RW.out) HPRE.out.1 HPRE.out.2.1 HPRE.out.2.2).mono ?_; rintro e y1 ⟨v', rfl, hJ, hb⟩; obtain ⟨U, cu, D, cd, AO1, m1, co1, AZ, nL, cL, rfl, hU, hD, hO, hZ⟩ := hJ; have HW1 := qq RW.out.size; have hU := own_more hU RW.out.size; have hD := own_more hD RW.out.size; have hO := hO.more RW.out.size; have hZ := own_more hZ RW.out.size; have BR := qs BR hb; have RW := qt RW hb; clear hb BJ HW1
 go_upto_region 2 with (refine wpList_store_part rfl 36 _ _ rfl y1.heap.size 0 36 [] [.slice none 0 0, .slice none 0 0, .slice none 0 0, .slice none 0 0, .int .i64 0, .int .i64 0] [] [.slice U 32 cu, .slice D 32 cd, .slice AO1 m1 co1, .slice AZ nL cL, .int .i64 (net : Int), .int .i64 (sent : Int)] rfl rfl (Blk.new _ _ _) rfl rfl infoJar (by simp [Value.oneCell']) ?_; intro y2 D9 G; have G := below_new_store G; rw [List.append_nil, List.nil_append] at D9)
 obtain ⟨t_, eo⟩ : ∃ t_, t_ = y1.heap.size := ⟨_, rfl⟩; rw [<- eo] at D9 ⊢; have BT := qq D9; have rt : r_ < t_ := by rw [eo]; exact BR.out.lt
 have wt_ : w.heap.size <= t_ := by rw [eo]; exact RW.out.size
 have BR := qs BR G; have RW := qt RW G; have HU := qq (own_below hU G); have HD := qq (own_below hD G); have HOW := qq (hO.stays G); have HZ := qq (own_below hZ G); clear hU hD hO hZ G D9 eo; go_wp2
 go_loopw [12] (fun i wr => ∃ (k m co : Nat) (AO : Option Addr) (cs' : List (List UInt8)), k <= n ∧ i = .int .i64 k ∧ Hid (cs' = addL last cs (bs.take k)) ∧ Hid (OwnItems 1 encB id 27 wr w.heap.size AO m co cs') ∧ Hid (Blk wr t_ 36 #[.slice U 32 cu, .slice D 32 cd, .slice AO m co, .slice AZ nL cL, .int .i64 (net : Int), .int .i64 (sent : Int)]) ∧
     Hid (wr.ownsRow w.heap.size 5 1 (.slice U 32 cu) 32 (up.map byteV)) ∧ Hid (wr.ownsRow w.heap.size 5 1 (.slice D 32 cd) 32 (dn.map byteV)) ∧ Hid (wr.ownsRow w.heap.size 5 1 (.slice AZ nL cL) nL (last.map byteV)) ∧ Hid (Blk wr r_ 36 #[.slice none 0 0, .slice none 0 0, .slice none 0 0, .slice none 0 0, .int .i64 0, .int .i64 0]) ∧ Below w.heap.size w wr) (fun i _ => n - (intOf i).toNat)
 case atStart => exact ⟨0, m1, co1, AO1, cs, Nat.zero_le _, rfl, rfl, HOW.out, BT.out, HU.out, HD.out, HZ.out, BR.out, RW.out⟩
 case round =>
  clear HOW BT HU HD HZ BR RW; obtain ⟨k, m, co, AO, cs', hk, rfl, HCS, HOW, BT, HU, HD, HZ, BR, hbr⟩ := hrel; have RW := qq hbr
  by_cases hkn : k < n
  · have hki : (k : Int) < (n : Int) := by omega
    obtain ⟨b5, o5, A5, n5, c5, rfl, hc0, hy⟩ := (HB.out.stays hbr).at_ hkn; have hkl : k < bs.length := by rw [HN.out]; exact hkn
    have hn5 : n5 <= 100000 := by rw [<- hy.len, listAt_get hkl]; exact HBL.out _ (List.getElem_mem hkl)
    have HST := qq (addL_step last cs bs k hkl); obtain ⟨bb, ebb⟩ : ∃ bb, listAt bs k = bb := ⟨_, rfl⟩; have HST : Hid (addL last cs (bs.take (k + 1)) = addC last cs' bb) := by rw [Hid, HST.out, HCS.out, ebb]
    rw [ebb] at hy; have HY := qq hy; have HM := qq (HOW.out.len (by decide)); have k2 := BT.out.cell 2; clear hy ebb hkl hbr
    by_cases h8 : m < 8
    · have h8i : (m : Int) < 8 := by omega
      have HH := qq (jhas_any AO m co cs' A5 n5 c5 bb _ HOW.out.lists HY.out)
      go_wp2_with fail
      refine HH.out.mono ?_; rintro e y1 ⟨rfl, hb⟩; have BT := qs BT hb; have BR := qs BR hb; have HOW := qs HOW hb; have HY := qs HY hb; have RW := qt RW hb; have HU := qq (own_below HU.out hb); have HD := qq (own_below HD.out hb); have HZ := qq (own_below HZ.out hb); clear hb HH k2 hc0; have k3 := BT.out.cell 3
      by_cases hin : bb ∈ cs'
      · rw [decide_eq_true hin]; have ADD : Hid (cs' = addL last cs (bs.take (k + 1))) := by rw [Hid, HST.out, addC, if_neg (fun h => h.2.1 hin)]
        clear hin k3; go_wp2
        go_roundw
        case rel => exact ⟨k + 1, m, co, AO, cs', by omega, by go_num, ADD.out, HOW.out, BT.out, HU.out, HD.out, HZ.out, BR.out, RW.out⟩
        case measure => simp [intOf]; omega
      · rw [decide_eq_false hin]; have HIN := qq hin; have HS := qq (octSame_any AZ nL cL last A5 n5 c5 bb _ (own_rd HZ.out) HY.out); clear hin
        go_wp2_with fail
        refine HS.out.mono ?_; rintro e y2 ⟨rfl, rfl⟩; clear HS k3
        by_cases hls : last = bb
        · rw [decide_eq_true hls]; have ADD : Hid (cs' = addL last cs (bs.take (k + 1))) := by rw [Hid, HST.out, addC, if_neg (fun h => h.2.2 hls)]
          clear hls; go_wp2
          go_roundw
          case rel => exact ⟨k + 1, m, co, AO, cs', by omega, by go_num, ADD.out, HOW.out, BT.out, HU.out, HD.out, HZ.out, BR.out, RW.out⟩
          case measure => simp [intOf]; omega
        · rw [decide_eq_false hls]; have ADD : Hid (cs' ++ [bb] = addL last cs (bs.take (k + 1))) := by rw [Hid, HST.out, addC, if_pos ⟨by rw [HM.out]; exact h8, HIN.out, hls⟩]
          have HOLT : Hid (∀ j, (Value.slice AO m co).ownBlock = some j -> j < y1.heap.size) := HOW.out.lt; clear hls
          go_upto_region 6 with fail
          go_wp2_with fail
          obtain ⟨y2, ey2⟩ : ∃ y2, y2 = y1 := ⟨_, rfl⟩; subst ey2; refine mono_start (fun _ => True) [pv (.pointer (some ⟨t_, 2, none⟩)), pv (.slice AO m co), pv (.slice A5 n5 c5), mv (fun v u => ∃ A' c', v = .slice A' n5 c' ∧ Bytes u A' n5 c' bb ∧ Fresh y2.heap.size A'), mv (fun v u => ∃ b' A' c', v = .slice (some ⟨b', 0, none⟩) 1 1 ∧ Rd u 1 (some ⟨b', 0, none⟩) 1 1 [.slice A' n5 c'] ∧ Bytes u A' n5 c' bb ∧ Fresh y2.heap.size A')] (by kernel_rfl) (by kernel_rfl) (fun OPS AV AL K w0 hO hA hL hK hb0 hz => ?_); refine step_pv (d := (some 34)) (hO.out 0 _ rfl) rfl rfl (fun wq hw => ?_) ?_
          · clear hO hA hL hK
            go_simp; try first | with_reducible rfl | assumption | decide
          try simp only [qp, qn]
          refine step_pg (d := (some 35)) (hO.out 1 _ rfl) rfl rfl (fun wq hw gt => ?_) ?_
          · have hx : Below y2.heap.size y2 wq := hb0.trans (hw.mono hb0.size); have k1 := (BT.out.stays hx).cell 2; clear gt hO hA hL hK
            go_simp; try first | with_reducible rfl | assumption | decide
          try simp only [qp, qn]
          refine step_pv (d := (some 36)) (hO.out 2 _ rfl) rfl rfl (fun wq hw => ?_) ?_
          · clear hO hA hL hK
            go_simp; try first | with_reducible rfl | assumption | decide
          try simp only [qp, qn]
          refine step_mc (d := (some 37)) (hO.out 3 _ rfl) rfl rfl (fun wq hw gt => ?_) (fun v_3 x_3 => ?_)
          · have hx : Below y2.heap.size y2 wq := hb0.trans (hw.mono hb0.size); refine ⟨_, _, ?_, (clone_any A5 n5 c5 _ _ (HY.out.stays hx) (by omega)).mono (fun e q h => ?_)⟩
            · clear gt hO hA hL hK
              go_simp
            obtain ⟨A', c', rfl, ho, hb⟩ := h; exact ⟨_, rfl, ⟨A', c', rfl, own_rd ho, (Fresh.own ho).more hx.size⟩, hb⟩
          try simp only [qp, qn]
          refine step_mv (d := (some 38)) (hO.out 4 _ rfl) rfl rfl (fun wq hw gt => ?_) (fun v_4 x_4 => ?_)
          · have hx : Below y2.heap.size y2 wq := hb0.trans (hw.mono hb0.size); obtain ⟨⟨A', c', rfl, h1, h2⟩, hb3⟩ := (gt 3 (hA.out 4 3 (by kernel_rfl))); refine ⟨_, _, ?_, ⟨_, A', c', rfl, rd_one _ _ 27, (h1.stays hb3).stays (below_alloc1 _ _), h2⟩, (Below.refl _ _).alloc (Nat.le_refl _) _⟩; clear gt hO hA hL hK
            go_simp; try with_reducible rfl
          try simp only [qp, qn]
          refine fun wq hw gt => hK.out _ _ ?_
          obtain ⟨⟨b', A', c', rfl, h1, h2, h3⟩, hb4⟩ := (gt 4 (hL.out 4 (by kernel_rfl))); have hx : Below y2.heap.size y2 wq := hb0.trans (hw.mono hb0.size); clear gt hO hA hL hK; have h1 := h1.stays hb4; have h2 := h2.stays hb4; have BT := qs BT hx; have BR := qs BR hx; have HOW := qs HOW hx; have RW := qt RW hx; have HU := qq (own_below HU.out hx); have HD := qq (own_below HD.out hx); have HZ := qq (own_below HZ.out hx); have hk9 := HOW.out.cap; obtain ⟨A8, c8, w8, hrun8, h8, hg8, _⟩ := run_append_items (P := Tryz.prog) 30 30 i0 (.slice none 0 0) 24 Tryz.underlying30 hi hz0 hz1 hz2 rfl (by decide) HOW.out bb (A1 := A') (n1 := n5) (c1 := c') rfl h1 (by simp [encB, Value.oneCell']) h2 (Off.fresh h3 HOLT.out) (by unfold maxLen; omega) (by omega) RW.out.size; clear hx hw hz hb0 hb4; have neT := own_ne' HOW.out BT.out (by decide); have neR := own_ne' HOW.out BR.out (by decide); have BT := qq (BT.out.grown hg8 neT.symm); have BR := qq (BR.out.grown hg8 neR.symm); have HU := qq (HU.out.kept hg8 (own_neO HU.out HOW.out (by decide))); have HD := qq (HD.out.kept hg8 (own_neO HD.out HOW.out (by decide))); have HZ := qq (HZ.out.kept hg8 (own_neO HZ.out HOW.out (by decide))); have RW := qq (RW.out.grown hg8 RW.out.size HOW.out.old); refine take_do (j := 5) (d := some 39) (v := .slice A8 (m + 1) c8) (w2 := w8) rfl rfl (by kernel_rfl) rfl (Or.inl (exec_append rfl rfl rfl hrun8)) trivial ?_; try simp only [qp, qn]
          refine take_do (j := 6) (d := some 40) (v := .pointer (some ⟨t_, 2, none⟩)) (w2 := w8) rfl rfl (by kernel_rfl) rfl (Or.inl (by go_simp; try with_reducible rfl)) trivial ?_; try simp only [qp, qn]
          have f2 := BT.out.frozen 2; have k2 := BT.out.cell 2; refine take_do (j := 7) (d := none) (v := undef) (w2 := w8.setCell ⟨t_, 2, none⟩ (.slice A8 (m + 1) c8)) rfl rfl (by kernel_rfl) rfl (Or.inr ⟨rfl, by go_simp; try with_reducible rfl⟩) trivial ?_; try simp only [qp, qn]
          refine wpAnyH_done (by kernel_rfl) ?_ _; have G9 : w8.grownBy (w8.setCell ⟨t_, 2, none⟩ (.slice A8 (m + 1) c8)) (some t_) := grown_put (World.grownBy.refl _ _) 2 _; have BT9 := BT.out.put 2 (.slice A8 (m + 1) c8); have HO9 := qq (h8.keptB BT.out (by decide) rfl G9); have HU := qq (HU.out.kept G9 (.inr (own_ne HU.out BT.out (by decide)))); have HD := qq (HD.out.kept G9 (.inr (own_ne HD.out BT.out (by decide)))); have HZ := qq (HZ.out.kept G9 (.inr (own_ne HZ.out BT.out (by decide)))); have BR := qq (BR.out.grown G9 (by simp; omega)); have RW := qq (RW.out.grown G9 RW.out.size (fun k hk => by cases hk; exact wt_)); obtain ⟨y9, hy9⟩ : ∃ y9, w8.setCell ⟨t_, 2, none⟩ (.slice A8 (m + 1) c8) = y9 := ⟨_, rfl⟩; rw [hy9] at BT9 HO9 HU HD HZ BR RW ⊢; have BT9 : Hid (Blk y9 t_ 36 #[.slice U 32 cu, .slice D 32 cd, .slice A8 (m + 1) c8, .slice AZ nL cL, .int .i64 (net : Int), .int .i64 (sent : Int)]) := BT9; clear hy9 G9 f2 k2 hrun8 h8 hg8 neT neR h1 h2 h3 BT HOW; go_wp2
          go_roundw
          case rel => exact ⟨k + 1, m + 1, c8, A8, cs' ++ [bb], by omega, by go_num, ADD.out, HO9.out, BT9.out, HU.out, HD.out, HZ.out, BR.out, RW.out⟩
          case measure => simp [intOf]; omega
    · have h8i : ¬ (m : Int) < 8 := by omega
      have ADD : Hid (cs' = addL last cs (bs.take (k + 1))) := by rw [Hid, HST.out, addC, if_neg (fun h => h8 (by rw [<- HM.out]; exact h.1))]
      clear h8; go_wp2
      go_roundw
      case rel => exact ⟨k + 1, m, co, AO, cs', by omega, by go_num, ADD.out, HOW.out, BT.out, HU.out, HD.out, HZ.out, BR.out, RW.out⟩
      case measure => simp [intOf]; omega
  · obtain rfl : k = n := by omega
    clear hkn; have h9 := HCS.out; rw [List.take_of_length_le (by rw [HN.out]; exact Nat.le_refl _)] at h9; have HCSF := qq h9; clear h9
    go_wp2_with (first
     | (refine wpList_load_part rfl 36 _ rfl t_ 0 36 [] [.slice U 32 cu, .slice D 32 cd, .slice AO m co, .slice AZ nL cL, .int .i64 (net : Int), .int .i64 (sent : Int)] [] _ rfl BT.out rfl Tryz.underlying36 rfl infoJar ?_)
     | (refine wpList_store_part rfl 36 _ _ rfl r_ 0 36 [] [.slice none 0 0, .slice none 0 0, .slice none 0 0, .slice none 0 0, .int .i64 0, .int .i64 0] [] [.slice U 32 cu, .slice D 32 cd, .slice AO m co, .slice AZ nL cL, .int .i64 (net : Int), .int .i64 (sent : Int)] rfl rfl BR.out rfl rfl infoJar (by simp [Value.oneCell']) ?_; intro y9 D9 G9; rw [List.append_nil, List.nil_append] at D9))
    refine bodyPost_ret (results_whole rfl _ _ r_ _ _ _ rfl D9 Tryz.underlying36 rfl infoJar) rfl ⟨_, rfl, ⟨U, cu, D, cd, AO, m, co, AZ, nL, cL, rfl, HU.out.kept G9 (.inr (own_ne HU.out BR.out (by decide))), HD.out.kept G9 (.inr (own_ne HD.out BR.out (by decide))), ?_, HZ.out.kept G9 (.inr (own_ne HZ.out BR.out (by decide)))⟩, hbr.grown G9 hbr.size (fun k hk => by cases hk; exact wr_)⟩; have hl := HOW.out.keptB BR.out (by decide) rfl G9; rw [HCSF.out] at hl; exact hl
theorem JarO.keptLow {w w' : World} {B g T : Nat} {v : Value} {j : JarT} {cs : Array Value} (h : JarO w B v j) (hB : Blk w g T cs) (hc : noByte cs.toList = true) (hg : w.grownBy w' (some g)) (hlt : g < B) : JarO w' B v j := by
 obtain ⟨U, cu, D, cd, AC, nC, cC, AZ, nL, cL, e, h1, h2, ⟨vs, h3, h5⟩, h4⟩ := h; have hne : ∀ {e size n : Nat} {v : Value} {xs : List Value}, w.ownsRow B e size v n xs -> v.ownBlock = none ∨ v.ownBlock ≠ some g := fun h => .inr (fun e => by have := (h.lt g e).1; omega)
 refine ⟨U, cu, D, cd, AC, nC, cC, AZ, nL, cL, e, h1.kept hg (hne h1), h2.kept hg (hne h2), ⟨vs, h3.kept hg (hne h3), h5.1, fun i x hx => ?_⟩, h4.kept hg (hne h4)⟩; obtain ⟨A', n', c', e1, e2, e3⟩ := h5.2 i x hx; exact ⟨A', n', c', e1, e2.kept hg (off_block e2 hB hc), e3⟩
theorem JarO.stays {w w' : World} {B : Nat} {v : Value} {j : JarT} (h : JarO w B v j) (hb : Below w.heap.size w w') : JarO w' B v j := by
 obtain ⟨U, cu, D, cd, AC, nC, cC, AZ, nL, cL, e, h1, h2, h3, h4⟩ := h; exact ⟨U, cu, D, cd, AC, nC, cC, AZ, nL, cL, e, own_below h1 hb, own_below h2 hb, h3.stays hb, own_below h4 hb⟩
instance {w w' : World} {B : Nat} {v : Value} {j : JarT} : QStay (JarO w B v j) w w' (JarO w' B v j) := ⟨fun h hb => JarO.stays h hb⟩
theorem new1_any (A : Option Addr) (n c : Nat) (l : List UInt8) (w : World) (h : Bytes w A n c l) : Calls Tryz.prog 32 #[.slice A n c] w fun e w' => e = .returned (.bool (decide (l.length ≠ 104))) ∧ Below w.heap.size w w' := by
 rw [h.len]; clear h
 go_enter Tryz.func32, Tryz.ntmps32
 go_wp2_with fail
 refine (jcookie_any A n c _).mono ?_; rintro e y ⟨rfl, rfl⟩
 by_cases h : n = 104
 · rw [decide_eq_true h]; subst h; go_wp2; go_ret; exact ⟨rfl, Below.refl _ _⟩
 · rw [decide_eq_false h]; have hh := qq h; clear h; go_wp2; go_ret; exact ⟨by rw [decide_eq_true hh.out]; rfl, Below.refl _ _⟩
theorem jnew_any (K1 K2 A3 : Option Addr) (d1 d2 nn c3 p : Nat) (up dn : List UInt8) (cs : List (List UInt8)) (w : World) (h1 : Bytes w K1 32 d1 up) (h2 : Bytes w K2 32 d2 dn) (h3 : Lists w A3 nn c3 cs) (hn1 : 1 <= nn) (hn8 : nn <= 8) (h104 : ∀ x ∈ cs, x.length = 104) :
    Calls Tryz.prog 8 #[.agg #[.int .i64 (p : Int), .int .i64 15, .slice K1 32 d1, .slice K2 32 d2, .slice A3 nn c3, .string ⟨#[]⟩, .int .i64 0], .int .i64 1] w fun e w' => ∃ v', e = .returned (.tuple #[v', .int .i64 0]) ∧ JarV w' v' ⟨up, dn, addL [] [] cs, [], 1, 0⟩ ∧ Below w.heap.size w w' := by
 have H1 := qq h1; have H2 := qq h2; have H3 := qq h3; have HX := qq h104; have HAN : Hid (cs.any (fun l => decide (l.length ≠ 104)) = false) := by
  rw [Hid, List.any_eq_false]; intro l hl; simp [h104 l hl]
 have i8 : ¬ (8 : Int) < (nn : Int) := by omega
 have i0 : ¬ (nn : Int) = 0 := by omega
 clear h1 h2 h3 h104
 go_enter Tryz.func8, Tryz.ntmps8
 go_upto_region 1 with fail
 obtain ⟨wz, t_, r_, ewz, et_, er_⟩ : ∃ wz t_ r_, wz = (w.alloc (.cells #[.int .i64 (p : Int), .int .i64 15, .slice K1 32 d1, .slice K2 32 d2, .slice A3 nn c3, .string ⟨#[]⟩, .int .i64 0] 32)).alloc (.cells #[.slice none 0 0, .slice none 0 0, .slice none 0 0, .slice none 0 0, .int .i64 0, .int .i64 0] 36) ∧ t_ = w.heap.size ∧ r_ = w.heap.size + 1 := ⟨_, _, _, rfl, rfl, rfl⟩; have hb : Below w.heap.size w wz := by rw [ewz]; exact below_alloc2 _ _ _
 have BT := qq (show Blk wz t_ 32 #[.int .i64 (p : Int), .int .i64 15, .slice K1 32 d1, .slice K2 32 d2, .slice A3 nn c3, .string ⟨#[]⟩, .int .i64 0] by rw [ewz, et_]; exact blk_new2_0 _ _ _ _ _); have BR := qq (show Blk wz r_ 36 #[.slice none 0 0, .slice none 0 0, .slice none 0 0, .slice none 0 0, .int .i64 0, .int .i64 0] by rw [ewz, er_]; exact blk_new2_1 _ _ _ _ _); have wr_ : w.heap.size <= r_ := by omega
 rw [<- ewz, <- er_, <- et_]; have RW := qq hb; clear hb ewz et_ er_
 go_wp2_with (refine wpList_load_part rfl 29 _ rfl t_ 2 32 [.int .i64 (p : Int), .int .i64 15] [.slice K1 32 d1, .slice K2 32 d2] [.slice A3 nn c3, .string ⟨#[]⟩, .int .i64 0] _ rfl BT.out rfl Tryz.underlying29 rfl infoPr2 ?_)
 refine (paired_any K1 K2 d1 d2 _).mono ?_; rintro e y1 ⟨rfl, hb⟩; have BT := qs BT hb; have BR := qs BR hb; have RW := qt RW hb; clear hb; have k4 := BT.out.cell 4; have HH := qq (hasL_new1 (fun l => decide (l.length ≠ 104)) A3 nn c3 cs _ (H3.out.stays RW.out) (fun W A n c l _ hl => new1_any A n c l W hl))
 go_wp2_with fail
 refine HH.out.mono ?_; rintro e y2 ⟨rfl, hb⟩; rw [HAN.out]; have BT := qs BT hb; have BR := qs BR hb; have RW := qt RW hb; clear hb HH k4; have k4 := BT.out.cell 4; have BR2 := BR; have HJ0 : Hid (JarV y2 (.agg #[.slice K1 32 d1, .slice K2 32 d2, .slice none 0 0, .slice none 0 0, .int .i64 1, .int .i64 0]) ⟨up, dn, [], [], 1, 0⟩) := ⟨K1, d1, K2, d2, none, 0, 0, none, 0, 0, rfl, H1.out.stays RW.out, H2.out.stays RW.out, ⟨[], Rd.nil _ _ _ (Nat.zero_le _) _, rfl, fun i l h => by simp at h⟩, Bytes.nil _ none 0 (Nat.zero_le _)⟩; have HAD := qq (jadded_any _ ⟨up, dn, [], [], 1, 0⟩ A3 nn c3 cs _ HJ0.out (Nat.zero_le _) (Nat.zero_le _) (fun x hx => by cases hx) (H3.out.stays RW.out) (by omega) (fun x hx => by rw [HX.out x hx]; decide))
 go_wp2_with (refine wpList_load_part rfl 29 _ rfl t_ 2 32 [.int .i64 (p : Int), .int .i64 15] [.slice K1 32 d1, .slice K2 32 d2] [.slice A3 nn c3, .string ⟨#[]⟩, .int .i64 0] _ rfl BT.out rfl Tryz.underlying29 rfl infoPr2 ?_)
 refine HAD.out.mono ?_; rintro e y3 ⟨v', rfl, hJ, hb⟩; have BR := qs BR hb; have RW := qt RW hb; have HRL : Hid (r_ < y2.heap.size) := BR2.out.lt; have hJ' := hJ; obtain ⟨U, cu, D, cd, AC, nC, cC, AZ, nL, cL, rfl, _⟩ := hJ'; have HJ := qq hJ; clear hb HAD HJ0 hJ k4
 go_wp2_with (refine wpList_store_part rfl 36 _ _ rfl r_ 0 36 [] [.slice none 0 0, .slice none 0 0, .slice none 0 0, .slice none 0 0, .int .i64 0, .int .i64 0] [] [.slice U 32 cu, .slice D 32 cd, .slice AC nC cC, .slice AZ nL cL, .int .i64 ((1 : Nat) : Int), .int .i64 ((0 : Nat) : Int)] rfl rfl BR.out rfl rfl infoJar (by simp [Value.oneCell']) ?_; intro y9 D9 G9; rw [List.append_nil, List.nil_append] at D9)
 refine bodyPost_ret (results_whole2 rfl _ _ r_ _ _ _ _ rfl rfl D9 Tryz.underlying36 rfl infoJar) rfl ⟨_, rfl, ?_, RW.out.grown G9 RW.out.size (fun k hk => by cases hk; exact wr_)⟩; exact (HJ.out.keptLow BR.out rfl G9 HRL.out).jar
theorem JarV.parts {w : World} {U D AC AZ : Option Addr} {cu cd nC cC nL cL : Nat} {n s : Value} {j : JarT} (h : JarV w (.agg #[.slice U 32 cu, .slice D 32 cd, .slice AC nC cC, .slice AZ nL cL, n, s]) j) : Bytes w U 32 cu j.up ∧ Bytes w D 32 cd j.dn ∧ Lists w AC nC cC j.cs ∧ Bytes w AZ nL cL j.last := by
 obtain ⟨_, _, _, _, _, _, _, _, _, _, e, h1, h2, h3, h4⟩ := h; simp only [Value.agg.injEq, Array.mk.injEq, List.cons.injEq, Value.slice.injEq] at e; obtain ⟨⟨rfl, _, rfl⟩, ⟨rfl, _, rfl⟩, ⟨rfl, rfl, rfl⟩, ⟨rfl, rfl, rfl⟩, _⟩ := e; exact ⟨h1, h2, h3, h4⟩
theorem JarO.keptT {w w' : World} {B g : Nat} {v : Value} {j : JarT} {cs : Array Value} (h : JarO w B v j) (hB : Blk w g 36 cs) (hc : noByte cs.toList = true) (hg : w.grownBy w' (some g)) : JarO w' B v j := by
 obtain ⟨U, cu, D, cd, AC, nC, cC, AZ, nL, cL, e, h1, h2, h3, h4⟩ := h; exact ⟨U, cu, D, cd, AC, nC, cC, AZ, nL, cL, e, h1.kept hg (.inr (own_ne h1 hB (by decide))), h2.kept hg (.inr (own_ne h2 hB (by decide))), h3.keptB hB (by decide) hc hg, h4.kept hg (.inr (own_ne h4 hB (by decide)))⟩
theorem und_ssb : Tryz.prog.underlying 30 = some (.slice (Tryz.prog.elem 30)) := by kernel_rfl
theorem size_ssb (w : World) : (sizeOf (Tryz.prog.elem 30)).run Tryz.prog w = .ok 1 w := by kernel_rfl
theorem Lists.cutOne {w : World} {A : Option Addr} {n c m k : Nat} {l : List UInt8} {ls : List (List UInt8)} (h : Lists w A n c (l :: ls)) (hm : n = m + 1) (hk : c - 1 = k) : Lists w (cutA A c 1) m k ls := by
 obtain ⟨vs, h1, h2, h3⟩ := h; subst hm; have hr := h1.cut 1 (m + 1) (by omega) (Nat.le_refl _); simp only [Nat.mul_one, Nat.add_sub_cancel] at hr; have hl := h1.1
 cases vs with
 | nil => simp at h2
 | cons v vs =>
  have e1 : ((v :: vs).drop 1).take m = vs := by rw [List.drop_one, List.tail_cons]; exact List.take_of_length_le (by simp at hl; omega)
  rw [e1, hk] at hr; exact ⟨vs, hr, by simpa using h2, fun i x hx => by obtain ⟨A', n', c', e2, e3⟩ := h3 (i + 1) x (by simpa using hx); exact ⟨A', n', c', by simpa using e2, e3⟩⟩
theorem jtake_any (v : Value) (j : JarT) (c0 : List UInt8) (rest : List (List UInt8)) (w : World) (hj : JarV w v j) (ho : j.ok) (hcs : j.cs = c0 :: rest) : Calls Tryz.prog 38 #[v] w fun e w' => ∃ v' A' c', e = .returned (.tuple #[v', .slice A' 104 c', .int .i64 0]) ∧ JarV w' v' ⟨j.up, j.dn, rest, c0, j.net, j.sent + 1⟩ ∧ Bytes w' A' 104 c' c0 ∧ Below w.heap.size w w' := by
 have hj' := hj; obtain ⟨U0, cu0, D0, cd0, AC, nC, cC, AZ0, nL0, cL0, rfl, _, _, hLx, _⟩ := hj'; obtain ⟨up, dn, cs, last, net, sent⟩ := j; have hcs : cs = c0 :: rest := hcs; subst hcs; have HJ0 := qq hj; have HO := qq ho; have hC1 : nC = rest.length + 1 := by rw [<- hLx.len]; simp
 have hsent : sent <= 1000 := ho.sent; have i0 : ¬ (nC : Int) = 0 := by omega
 have i1 : ¬ (sent : Int) = 1099511627776 := by omega
 clear hj ho hLx hC1
 go_enter Tryz.func38, Tryz.ntmps38
 go_upto_region 1 with fail
 obtain ⟨wz, j_, r_, ewz, ej_, er_⟩ : ∃ wz j_ r_, wz = (w.alloc (.cells #[.slice U0 32 cu0, .slice D0 32 cd0, .slice AC nC cC, .slice AZ0 nL0 cL0, .int .i64 (net : Int), .int .i64 (sent : Int)] 36)).alloc (.cells #[.slice none 0 0, .slice none 0 0, .slice none 0 0, .slice none 0 0, .int .i64 0, .int .i64 0] 36) ∧ j_ = w.heap.size ∧ r_ = w.heap.size + 1 := ⟨_, _, _, rfl, rfl, rfl⟩; have hb : Below w.heap.size w wz := by rw [ewz]; exact below_alloc2 _ _ _
 have BJ := qq (show Blk wz j_ 36 #[.slice U0 32 cu0, .slice D0 32 cd0, .slice AC nC cC, .slice AZ0 nL0 cL0, .int .i64 (net : Int), .int .i64 (sent : Int)] by rw [ewz, ej_]; exact blk_new2_0 _ _ _ _ _); have BR := qq (show Blk wz r_ 36 #[.slice none 0 0, .slice none 0 0, .slice none 0 0, .slice none 0 0, .int .i64 0, .int .i64 0] by rw [ewz, er_]; exact blk_new2_1 _ _ _ _ _); have wr_ : w.heap.size <= r_ := by omega
 rw [<- ewz, <- er_, <- ej_]; have RW := qq hb; clear hb ewz ej_ er_
 go_wp2_with (refine wpList_load_part rfl 36 _ rfl j_ 0 36 [] [.slice U0 32 cu0, .slice D0 32 cd0, .slice AC nC cC, .slice AZ0 nL0 cL0, .int .i64 (net : Int), .int .i64 (sent : Int)] [] _ rfl BJ.out rfl Tryz.underlying36 rfl infoJar ?_)
 refine (jvalid_any _ _ _ (HJ0.out.stays RW.out) HO.out).mono ?_; rintro e y0 ⟨rfl, hb⟩; have BJ := qs BJ hb; have BR := qs BR hb; have RW := qt RW hb; clear hb; have k2 := BJ.out.cell 2; have k5 := BJ.out.cell 5
 go_upto_region 7 with fail
 clear k2 k5
 go_wp2_with (refine wpList_load_part rfl 36 _ rfl j_ 0 36 [] [.slice U0 32 cu0, .slice D0 32 cd0, .slice AC nC cC, .slice AZ0 nL0 cL0, .int .i64 (net : Int), .int .i64 (sent : Int)] [] _ rfl BJ.out rfl Tryz.underlying36 rfl infoJar ?_)
 refine (jclone_any _ _ _ (HJ0.out.stays RW.out) HO.out.len (by rcases HO.out.last with h | h <;> simp at h <;> simp [h]) (fun x hx => by rw [HO.out.each x hx]; decide)).mono ?_; rintro e y1 ⟨v', rfl, hJ, hb⟩; have hRL := BR.out.lt; have BR := qs BR hb; have RW := qt RW hb; have hJ' := hJ; obtain ⟨U, cu, D, cd, AO, m, co, AZ, nL, cL, rfl, _, _, hOx, _⟩ := hJ'; have hm1 : m = rest.length + 1 := by rw [<- hOx.len (by decide)]; simp
 obtain ⟨b, off, A5, n5, c5, rfl, hcb, hY⟩ := hOx.lists.at_ (i := 0) (by omega); rw [Nat.add_zero] at hcb; have hY : Bytes y1 A5 n5 c5 c0 := hY; obtain rfl : n5 = 104 := by rw [<- hY.len]; exact HO.out.each c0 (by simp)
 have hmc := hOx.le; have hcc := hOx.cap; have HJ := qq hJ; have HY := qq hY; obtain ⟨mr, hmr⟩ : ∃ mr, rest.length = mr := ⟨_, rfl⟩; rw [hmr] at hm1; subst hm1; clear hb BJ hJ hY hRL hOx hmr
 go_upto_region 8 with (refine wpList_store_part rfl 36 _ _ rfl y1.heap.size 0 36 [] [.slice none 0 0, .slice none 0 0, .slice none 0 0, .slice none 0 0, .int .i64 0, .int .i64 0] [] [.slice U 32 cu, .slice D 32 cd, .slice (some ⟨b, off, none⟩) (mr + 1) co, .slice AZ nL cL, .int .i64 (net : Int), .int .i64 (sent : Int)] rfl rfl (Blk.new _ _ _) rfl rfl infoJar (by simp [Value.oneCell']) ?_; intro y2 D9 G; have G := below_new_store G; rw [List.append_nil, List.nil_append] at D9)
 obtain ⟨t_, eo⟩ : ∃ t_, t_ = y1.heap.size := ⟨_, rfl⟩; rw [<- eo] at D9 ⊢; have BT := qq D9; have rt : r_ < t_ := by rw [eo]; exact BR.out.lt
 have wt_ : w.heap.size <= t_ := by rw [eo]; exact RW.out.size
 have hcb := cell_stays G hcb; have BR := qs BR G; have HJ := qs HJ G; have HY := qs HY G; have RW := qt RW G; clear G D9 eo; have s1 : ∀ u, (Instr.slice 30 (.slice (some ⟨b, off, none⟩) (mr + 1) co) (some (.int .i64 1)) none none).run Tryz.prog u = .ok (.slice (cutA (some ⟨b, off, none⟩) co 1) mr (co - 1)) u := fun u => run_cutFrom und_ssb size_ssb 1 1 mr (co - 1) rfl (by omega) (by omega) rfl u
 go_wp2_with fail
 refine take_start (S := fun _ => True) (by kernel_rfl) ?hPQ trivial (fun hPQ _ => ?rest)
 case hPQ => (repeat (with_reducible first | refine PQ.then ?_ | refine PQ.block ?_)); exact fun _ _ d _ _ h => by cases d <;> exact h
 case rest =>
 have hx : Below y2.heap.size y2 y2.drew := (Below.refl _ _).drew; obtain ⟨yd, hyd⟩ : ∃ yd, y2.drew = yd := ⟨_, rfl⟩; rw [hyd] at hx ⊢; clear hyd; have BT := qs BT hx; have BR := qs BR hx; have HJ := qs HJ hx; have HY := qs HY hx; have RW := qt RW hx; have k2 := BT.out.cell 2; have kb := cell_stays hx hcb; clear hx hcb; refine qv (i := 0) (d := some 24) (v := .pointer (some ⟨t_, 2, none⟩)) rfl rfl (by kernel_rfl) hPQ (fun u _ => ?_) trivial ?_
 · go_simp; try with_reducible rfl
 try simp only [qp, qn]
 refine qv (i := 4) (d := some 28) (v := .pointer (some ⟨t_, 2, none⟩)) rfl rfl (by kernel_rfl) hPQ (fun u _ => ?_) trivial ?_
 · go_simp; try with_reducible rfl
 try simp only [qp, qn]
 refine (fun (hC : (?C : Prop)) => ?main) ?hC
 case main =>
  refine take_or (i := 1) (j := 5) (by kernel_rfl) ?_ ?_
  · refine op_do (j := 1) (d := some 25) (v := .slice (some ⟨b, off, none⟩) (mr + 1) co) (w2 := yd) rfl rfl rfl (by go_simp; try with_reducible rfl) ⟨trivial, ?_⟩; try simp only [qp, qn]
    refine qv (i := 2) (d := some 26) (v := .pointer (some ⟨b, off, none⟩)) rfl rfl (by kernel_rfl) hPQ (fun u _ => ?_) trivial ?_
    · go_simp; try with_reducible rfl
    try simp only [qp, qn]
    refine take_or (i := 3) (j := 5) (by kernel_rfl) ?_ ?_
    · refine op_do (j := 3) (d := some 27) (v := .slice A5 104 c5) (w2 := yd) rfl rfl rfl (by go_simp; try with_reducible rfl) ⟨trivial, ?_⟩; try simp only [qp, qn]
      refine take_do (j := 5) (d := some 29) (v := .slice (some ⟨b, off, none⟩) (mr + 1) co) (w2 := yd) rfl rfl (by kernel_rfl) rfl (Or.inl (by go_simp; try with_reducible rfl)) trivial ?_; try simp only [qp, qn]
      refine qv (i := 6) (d := some 30) (v := .slice (cutA (some ⟨b, off, none⟩) co 1) mr (co - 1)) rfl rfl (by kernel_rfl) hPQ (fun u _ => ?_) trivial ?_
      · have s2 := s1 u; go_simp; try with_reducible rfl
      try simp only [qp, qn]
      refine qv (i := 7) (d := some 31) (v := .pointer (some ⟨t_, 3, none⟩)) rfl rfl (by kernel_rfl) hPQ (fun u _ => ?_) trivial ?_
      · go_simp; try with_reducible rfl
      try simp only [qp, qn]
      refine relist (L' := #[true, true, true, true, true, true, true, true, false, false, false]) (by kernel_rfl) ?_; exact hC
    · refine op_do (j := 5) (d := some 29) (v := .slice (some ⟨b, off, none⟩) (mr + 1) co) (w2 := yd) rfl rfl rfl (by go_simp; try with_reducible rfl) ⟨trivial, ?_⟩; try simp only [qp, qn]
      refine qv (i := 6) (d := some 30) (v := .slice (cutA (some ⟨b, off, none⟩) co 1) mr (co - 1)) rfl rfl (by kernel_rfl) hPQ (fun u _ => ?_) trivial ?_
      · have s2 := s1 u; go_simp; try with_reducible rfl
      try simp only [qp, qn]
      refine take_do (j := 3) (d := some 27) (v := .slice A5 104 c5) (w2 := yd) rfl rfl (by kernel_rfl) rfl (Or.inl (by go_simp; try with_reducible rfl)) trivial ?_; try simp only [qp, qn]
      refine qv (i := 7) (d := some 31) (v := .pointer (some ⟨t_, 3, none⟩)) rfl rfl (by kernel_rfl) hPQ (fun u _ => ?_) trivial ?_
      · go_simp; try with_reducible rfl
      try simp only [qp, qn]
      refine relist (L' := #[true, true, true, true, true, true, true, true, false, false, false]) (by kernel_rfl) ?_; exact hC
  · refine op_do (j := 5) (d := some 29) (v := .slice (some ⟨b, off, none⟩) (mr + 1) co) (w2 := yd) rfl rfl rfl (by go_simp; try with_reducible rfl) ⟨trivial, ?_⟩; try simp only [qp, qn]
    refine qv (i := 6) (d := some 30) (v := .slice (cutA (some ⟨b, off, none⟩) co 1) mr (co - 1)) rfl rfl (by kernel_rfl) hPQ (fun u _ => ?_) trivial ?_
    · have s2 := s1 u; go_simp; try with_reducible rfl
    try simp only [qp, qn]
    refine take_do (j := 1) (d := some 25) (v := .slice (some ⟨b, off, none⟩) (mr + 1) co) (w2 := yd) rfl rfl (by kernel_rfl) rfl (Or.inl (by go_simp; try with_reducible rfl)) trivial ?_; try simp only [qp, qn]
    refine qv (i := 2) (d := some 26) (v := .pointer (some ⟨b, off, none⟩)) rfl rfl (by kernel_rfl) hPQ (fun u _ => ?_) trivial ?_
    · go_simp; try with_reducible rfl
    try simp only [qp, qn]
    refine take_do (j := 3) (d := some 27) (v := .slice A5 104 c5) (w2 := yd) rfl rfl (by kernel_rfl) rfl (Or.inl (by go_simp; try with_reducible rfl)) trivial ?_; try simp only [qp, qn]
    refine qv (i := 7) (d := some 31) (v := .pointer (some ⟨t_, 3, none⟩)) rfl rfl (by kernel_rfl) hPQ (fun u _ => ?_) trivial ?_
    · go_simp; try with_reducible rfl
    try simp only [qp, qn]
    refine relist (L' := #[true, true, true, true, true, true, true, true, false, false, false]) (by kernel_rfl) ?_; exact hC
 case hC =>
  clear hPQ k2 kb; have f3 := BT.out.frozen 3; have k3 := BT.out.cell 3; refine take_do (j := 8) (d := none) (v := undef) (w2 := yd.setCell ⟨t_, 3, none⟩ (.slice A5 104 c5)) rfl rfl (by kernel_rfl) rfl (Or.inr ⟨rfl, by go_simp; try with_reducible rfl⟩) trivial ?_; try simp only [qp, qn]
  have G9 : yd.grownBy (yd.setCell ⟨t_, 3, none⟩ (.slice A5 104 c5)) (some t_) := grown_put (World.grownBy.refl _ _) 3 _; have BT3 := BT.out.put 3 (.slice A5 104 c5); have HJ := qq (HJ.out.keptT BT.out rfl G9); have HY := qq (HY.out.kept G9 (off_block HY.out BT.out rfl)); have BR := qq (BR.out.grown G9 (by simp; omega)); have RW := qq (RW.out.grown G9 RW.out.size (fun k hk => by cases hk; exact wt_)); obtain ⟨y3, hy3⟩ : ∃ y3, yd.setCell ⟨t_, 3, none⟩ (.slice A5 104 c5) = y3 := ⟨_, rfl⟩; rw [hy3] at BT3 HJ HY BR RW ⊢; have BT3 : Hid (Blk y3 t_ 36 #[.slice U 32 cu, .slice D 32 cd, .slice (some ⟨b, off, none⟩) (mr + 1) co, .slice A5 104 c5, .int .i64 (net : Int), .int .i64 (sent : Int)]) := BT3; clear hy3 G9 f3 k3 BT; refine take_do (j := 9) (d := some 32) (v := .pointer (some ⟨t_, 2, none⟩)) (w2 := y3) rfl rfl (by kernel_rfl) rfl (Or.inl (by go_simp; try with_reducible rfl)) trivial ?_; try simp only [qp, qn]
  have f2 := BT3.out.frozen 2; have k2 := BT3.out.cell 2; refine take_do (j := 10) (d := none) (v := undef) (w2 := y3.setCell ⟨t_, 2, none⟩ (.slice (cutA (some ⟨b, off, none⟩) co 1) mr (co - 1))) rfl rfl (by kernel_rfl) rfl (Or.inr ⟨rfl, by go_simp; try with_reducible rfl⟩) trivial ?_; try simp only [qp, qn]
  have G9 : y3.grownBy (y3.setCell ⟨t_, 2, none⟩ (.slice (cutA (some ⟨b, off, none⟩) co 1) mr (co - 1))) (some t_) := grown_put (World.grownBy.refl _ _) 2 _; have BT4 := BT3.out.put 2 (.slice (cutA (some ⟨b, off, none⟩) co 1) mr (co - 1)); have HJ := qq (HJ.out.keptT BT3.out rfl G9); have HY := qq (HY.out.kept G9 (off_block HY.out BT3.out rfl)); have BR := qq (BR.out.grown G9 (by simp; omega)); have RW := qq (RW.out.grown G9 RW.out.size (fun k hk => by cases hk; exact wt_)); obtain ⟨y4, hy4⟩ : ∃ y4, y3.setCell ⟨t_, 2, none⟩ (.slice (cutA (some ⟨b, off, none⟩) co 1) mr (co - 1)) = y4 := ⟨_, rfl⟩; rw [hy4] at BT4 HJ HY BR RW ⊢; have BT4 : Hid (Blk y4 t_ 36 #[.slice U 32 cu, .slice D 32 cd, .slice (cutA (some ⟨b, off, none⟩) co 1) mr (co - 1), .slice A5 104 c5, .int .i64 (net : Int), .int .i64 (sent : Int)]) := BT4; clear hy4 G9 f2 k2 BT3; refine wpAnyH_done (by kernel_rfl) ?_ _; clear s1; have f5 := BT4.out.frozen 5; have k5 := BT4.out.cell 5; have wS : IntKind.i64.wrap ((sent : Int) + 1) = (sent : Int) + 1 := IntWalk.i64_in _ (by omega)
  go_upto_region 10 with fail
  have G9 : y4.grownBy (y4.setCell ⟨t_, 5, none⟩ (.int .i64 ((sent : Int) + 1))) (some t_) := grown_put (World.grownBy.refl _ _) 5 _; have BT5 := BT4.out.put 5 (.int .i64 ((sent : Int) + 1)); have HJ := qq (HJ.out.keptT BT4.out rfl G9); have HY := qq (HY.out.kept G9 (off_block HY.out BT4.out rfl)); have BR := qq (BR.out.grown G9 (by simp; omega)); have RW := qq (RW.out.grown G9 RW.out.size (fun k hk => by cases hk; exact wt_)); obtain ⟨y5, hy5⟩ : ∃ y5, y4.setCell ⟨t_, 5, none⟩ (.int .i64 ((sent : Int) + 1)) = y5 := ⟨_, rfl⟩; rw [hy5] at BT5 HJ HY BR RW ⊢; have BT : Hid (Blk y5 t_ 36 #[.slice U 32 cu, .slice D 32 cd, .slice (cutA (some ⟨b, off, none⟩) co 1) mr (co - 1), .slice A5 104 c5, .int .i64 (net : Int), .int .i64 ((sent + 1 : Nat) : Int)]) := BT5; clear hy5 G9 f5 k5 BT4 BT5 wS
  go_wp2_with fail
  refine mono_start (fun _ => True) [pv (.agg #[.slice U 32 cu, .slice D 32 cd, .slice (cutA (some ⟨b, off, none⟩) co 1) mr (co - 1), .slice A5 104 c5, .int .i64 (net : Int), .int .i64 ((sent + 1 : Nat) : Int)]), pv (.pointer (some ⟨t_, 3, none⟩)), pv (.slice A5 104 c5), mv (fun v u => ∃ A' c', v = .slice A' 104 c' ∧ Bytes u A' 104 c' c0)] (by kernel_rfl) (by kernel_rfl) (fun OPS AV AL K w0 hO hA hL hK hb0 hz => ?_); refine step_pg (d := (some 37)) (hO.out 0 _ rfl) rfl rfl (fun wq hw gt => ?_) ?_
  · have hx : Below y5.heap.size y5 wq := hb0.trans (hw.mono hb0.size); exact exec_load_part 36 _ rfl t_ 0 36 [] [.slice U 32 cu, .slice D 32 cd, .slice (cutA (some ⟨b, off, none⟩) co 1) mr (co - 1), .slice A5 104 c5, .int .i64 (net : Int), .int .i64 ((sent + 1 : Nat) : Int)] [] _ rfl (BT.out.stays hx) rfl Tryz.underlying36 rfl infoJar
  try simp only [qp, qn]
  refine step_pv (d := (some 38)) (hO.out 1 _ rfl) rfl rfl (fun wq hw => ?_) ?_
  · clear hO hA hL hK
    go_simp; try first | with_reducible rfl | assumption | decide
  try simp only [qp, qn]
  refine step_pg (d := (some 39)) (hO.out 2 _ rfl) rfl rfl (fun wq hw gt => ?_) ?_
  · have hx : Below y5.heap.size y5 wq := hb0.trans (hw.mono hb0.size); have k1 := (BT.out.stays hx).cell 3; clear gt hO hA hL hK
    go_simp; try first | with_reducible rfl | assumption | decide
  try simp only [qp, qn]
  refine step_mc (d := (some 40)) (hO.out 3 _ rfl) rfl rfl (fun wq hw gt => ?_) (fun v_c3 x_c3 => ?_)
  · have hx : Below y5.heap.size y5 wq := hb0.trans (hw.mono hb0.size); refine ⟨_, _, ?_, (clone_any A5 104 c5 _ _ (HY.out.stays hx) (by omega)).mono (fun e q h => ?_)⟩
    · clear gt hO hA hL hK
      go_simp
    obtain ⟨A', c', rfl, ho, hb⟩ := h; exact ⟨_, rfl, ⟨A', c', rfl, own_rd ho⟩, hb⟩
  try simp only [qp, qn]
  refine fun wq hw gt => hK.out _ _ ?_
  obtain ⟨⟨A7, c7, rfl, h7⟩, hb7⟩ := (gt 3 (hL.out 3 (by kernel_rfl))); have hx : Below y5.heap.size y5 wq := hb0.trans (hw.mono hb0.size); clear gt hO hA hL hK; have h7 := h7.stays hb7; have BR := qs BR hx; have HJ := qs HJ hx; have HY := qs HY hx; have RW := qt RW hx; have H7 := qq h7; clear hx hw hz hb0 hb7 h7; refine take_store_part (j := 4) rfl rfl (by kernel_rfl) rfl 36 _ _ rfl r_ 0 36 [] [.slice none 0 0, .slice none 0 0, .slice none 0 0, .slice none 0 0, .int .i64 0, .int .i64 0] [] [.slice U 32 cu, .slice D 32 cd, .slice (cutA (some ⟨b, off, none⟩) co 1) mr (co - 1), .slice A5 104 c5, .int .i64 (net : Int), .int .i64 ((sent + 1 : Nat) : Int)] rfl rfl BR.out rfl rfl infoJar (by simp [Value.oneCell']) (fun _ _ => trivial) (fun y9 D9 G9 => ?_); rw [List.append_nil, List.nil_append] at D9; try simp only [qp, qn]
  refine take_do (j := 5) (d := some 3) (v := .slice A7 104 c7) (w2 := y9) rfl rfl (by kernel_rfl) rfl (Or.inl (by go_simp; try with_reducible rfl)) trivial ?_; try simp only [qp, qn]
  refine take_do (j := 6) (d := some 4) (v := .int .i64 0) (w2 := y9) rfl rfl (by kernel_rfl) rfl (Or.inl (by go_simp; try with_reducible rfl)) trivial ?_; try simp only [qp, qn]
  refine wpAnyH_done (by kernel_rfl) ?_ _
  go_wp2_with fail
  have HJ9 := (HJ.out.keptT BR.out rfl G9).jar.parts; have HY9 := HY.out.kept G9 (off_block HY.out BR.out rfl); refine bodyPost_ret (results_whole3 rfl _ _ r_ _ _ _ _ _ rfl rfl rfl D9 Tryz.underlying36 rfl infoJar) rfl ⟨_, A7, c7, rfl, ⟨U, cu, D, cd, cutA (some ⟨b, off, none⟩) co 1, mr, co - 1, A5, 104, c5, rfl, HJ9.1, HJ9.2.1, HJ9.2.2.1.cutOne rfl rfl, HY9⟩, H7.out.kept G9 (off_block H7.out BR.out rfl), RW.out.grown G9 RW.out.size (fun k hk => by cases hk; exact wr_)⟩
def z104 : List UInt8 := List.replicate 104 0
def qFs (u c : List UInt8) (n : Nat) : List (Int × List UInt8) := [(260, u), (516, c)] ++ List.replicate n (772, z104)
theorem qFs_succ (u c : List UInt8) (n : Nat) : qFs u c (n + 1) = qFs u c n ++ [(772, z104)] := by
 unfold qFs; rw [List.replicate_succ', List.append_assoc]
theorem qFs_length (u c : List UInt8) (n : Nat) : (qFs u c n).length = 2 + n := by simp [qFs]; omega
def askH (t : Nat) : HdT := ⟨0, 4, 3, 0, 6, 0, 0, 0, 0, 0, 0, 0, t⟩
theorem askH_ok (t : Nat) (h : t < 18446744073709551616) : (askH t).ok := ⟨(show HdOk ((0 : Nat) : Int) ((4 : Nat) : Int) ((3 : Nat) : Int) ((0 : Nat) : Int) 6 0 by decide), (show 0 < 4294967296 by decide), (show 0 < 4294967296 by decide), (show 0 < 4294967296 by decide), (show 0 < 18446744073709551616 by decide), (show 0 < 18446744073709551616 by decide), (show 0 < 18446744073709551616 by decide), h⟩
def noBig (cs : List Value) : Bool := cs.all fun v => match v with | .slice _ n _ => n == 0 | _ => true
theorem Lists.keptZ {w w' : World} {A : Option Addr} {n c g : Nat} {T : TypeId} {cs : Array Value} {ls : List (List UInt8)} (h : Lists w A n c ls) (hB : Blk w g T cs) (h1 : noByte cs.toList = true) (h2 : noBig cs.toList = true) (hl : ∀ x ∈ ls, x.length = 104) (hg : w.grownBy w' (some g)) : Lists w' A n c ls := by
 cases n with
 | zero =>
  have he : ls = [] := List.eq_nil_of_length_eq_zero h.len; obtain ⟨vs, hr, hv, hf⟩ := h; subst he; have hv0 : vs = [] := List.eq_nil_of_length_eq_zero (by simpa using hv); subst hv0; exact ⟨[], ⟨hr.1, hr.2.1, hr.2.2.1, fun i u hu => by simp at hu⟩, rfl, fun i l hl => by simp at hl⟩
 | succ n =>
  obtain ⟨b, off, A', n', c', rfl, hc0, hy⟩ := h.at_ (Nat.succ_pos n); have hn' : n' = 104 := by
   rw [<- hy.len, listAt_get (by rw [h.len]; omega)]; exact hl _ (List.getElem_mem _)
  have hbg : b ≠ g := by
   intro e; subst e; rw [hB.cell, <- Array.getElem?_toList] at hc0; have h3 := List.all_eq_true.1 h2 _ (List.mem_of_getElem? hc0); simp at h3; omega
  have hlt := World.block_lt_of_cell? w _ hc0; have hbl := hg.block b hlt (fun e => hbg (Option.some.inj e)); obtain ⟨vs, hr, hv, hf⟩ := h; refine ⟨vs, ⟨hr.1, hr.2.1, hr.2.2.1, fun i u hu => ?_⟩, hv, fun i x hx => ?_⟩
  · obtain ⟨b', off', e, hc⟩ := hr.2.2.2 i u hu
    cases e
    exact ⟨b, off, rfl, (World.cell?_of_block (a := ⟨b, off + i, none⟩) hbl).trans hc⟩
  · obtain ⟨A2, n2, c2, e1, e2⟩ := hf i x hx; exact ⟨A2, n2, c2, e1, e2.kept hg (off_block e2 hB h1)⟩
theorem JarV.keptZ {w w' : World} {g : Nat} {T : TypeId} {cs : Array Value} {v : Value} {j : JarT} (h : JarV w v j) (hB : Blk w g T cs) (h1 : noByte cs.toList = true) (h2 : noBig cs.toList = true) (hl : ∀ x ∈ j.cs, x.length = 104) (hg : w.grownBy w' (some g)) : JarV w' v j := by
 obtain ⟨U, cu, D, cd, AC, nC, cC, AL, nL, cL, e, k1, k2, k3, k4⟩ := h; exact ⟨U, cu, D, cd, AC, nC, cC, AL, nL, cL, e, k1.kept hg (off_block k1 hB h1), k2.kept hg (off_block k2 hB h1), k3.keptZ hB h1 h2 hl hg, k4.kept hg (off_block k4 hB h1)⟩
theorem make_z104 (w : World) : (Instr.makeSlice 27 (.int .i64 104) (.int .i64 104)).run Tryz.prog w =
    .ok (.slice (some ⟨w.heap.size, 0, none⟩) 104 104) (w.alloc (.cells (bytesC z104) 5)) := by
 obtain ⟨i0, hi, hz0, hz1, hz2⟩ := info_parts infoByteA; have := run_make (P := Tryz.prog) w 27 5 i0 (.int .u8 0) Tryz.underlying27 hi hz0 .i64 .i64 104 104 (by omega) (by omega) (by rw [hz2]; omega) (by omega); have e : madeCells #[Value.int .u8 0] 104 = bytesC z104 := by kernel_rfl
 rw [<- e]
 simpa [hz1, Value.cells] using this
theorem blk_z104 (w : World) : Bytes (w.alloc (.cells (bytesC z104) 5)) (some ⟨w.heap.size, 0, none⟩) 104 104 z104 := by
 refine ⟨by rw [List.length_map]; rfl, Nat.le_refl _, by decide, fun i u hu => ⟨w.heap.size, 0, rfl, ?_⟩⟩; have h := (Blk.new w 5 (bytesC z104)).cell (0 + i); rw [h, Nat.zero_add]
 simpa [bytesC] using hu
theorem own_twoF {w : World} {B A1 n1 c1 A2 n2 c2} {r1 r2 : Int × List UInt8} (h1 : Bytes w A1 n1 c1 r1.2) (h2 : Bytes w A2 n2 c2 r2.2) (hB : B <= w.heap.size) : OwnItems 2 encFld Prod.snd 97 (w.alloc (.cells #[.int .i64 r1.1, .slice A1 n1 c1, .int .i64 r2.1, .slice A2 n2 c2] 97)) B (some ⟨w.heap.size, 0, none⟩) 2 2 [r1, r2] := by
 have h := ((ItemsV.nil (sz := 2) (enc := encFld) (dat := Prod.snd) w none).snoc r1 A1 n1 c1 rfl h1 Off.none).snoc r2 A2 n2 c2 rfl h2 Off.none; refine ⟨[.int .i64 r1.1, .slice A1 n1 c1, .int .i64 r2.1, .slice A2 n2 c2], ⟨rfl, .inr ⟨w.heap.size, 2, _, rfl, hB, heap_alloc_new _ _, Nat.le_refl _, by decide, rfl, rfl⟩⟩, ?_⟩; exact (h.bad (Nat.le_refl _)).stays (below_alloc1 _ _)
theorem room_any (U D AC AZ : Option Addr) (cu cd nC cC nL cL : Nat) (n s : Value) (w : World) (m : Int) (hw : IntKind.i64.wrap (8 - (nC : Int)) = m) : Calls Tryz.prog 40 #[.agg #[.slice U 32 cu, .slice D 32 cd, .slice AC nC cC, .slice AZ nL cL, n, s]] w fun e w' => e = .returned (.int .i64 m) ∧ Below w.heap.size w w' := by
 go_enter Tryz.func40, Tryz.ntmps40
 go_wp2; go_ret; exact ⟨rfl, below_alloc1 _ _⟩
theorem jquestion_any (v : Value) (j : JarT) (c0 : List UInt8) (rest : List (List UInt8)) (t : Nat) (Au : Option Addr) (cu' : Nat) (uq : List UInt8) (An : Option Addr) (cn : Nat) (nonce : List UInt8) (w : World) (hj : JarV w v j) (ho : j.ok) (hcs : j.cs = c0 :: rest) (ht : t < 18446744073709551616) (hu : Bytes w Au 32 cu' uq) (hn : Bytes w An 16 cn nonce) (kr : Nat) (hkr : rest.length + kr = 7) (he : errX (qFs uq c0 kr) = 0) (hx : totX (qFs uq c0 kr) <= 1192) (hf : findX (qFs uq c0 kr) 1028 (2 + kr) = []) :
    Calls Tryz.prog 10 #[v, .int .u64 t, .slice Au 32 cu', .slice An 16 cn] w fun e w' => ∃ v' A' c', e = .returned (.tuple #[v', .slice A' (88 + totX (qFs uq c0 kr) + 0) c', .int .i64 0]) ∧ JarV w' v' ⟨j.up, j.dn, rest, c0, j.net, j.sent + 1⟩ ∧ Bytes w' A' (88 + totX (qFs uq c0 kr) + 0) c' (protB j.up (askH t) (qFs uq c0 kr) [] nonce) ∧ Below w.heap.size w w' := by
 obtain ⟨i0, hi, hz0, hz1, hz2⟩ := info_parts infoFld; have hj' := hj; obtain ⟨U0, cu0, D0, cd0, AC, nC, cC, AZ0, nL0, cL0, rfl, _, _, _, _⟩ := hj'; obtain ⟨up, dn, cs, last, net, sent⟩ := j; have hcs : cs = c0 :: rest := hcs; subst hcs; have HJ0 := qq hj; have HO := qq ho; have HU0 := qq hu; have HN0 := qq hn; have HKR := qq hkr; have HE := qq he; have HX := qq hx; have HF := qq hf; clear hj ho hu hn hkr he hx hf
 go_enter Tryz.func10, Tryz.ntmps10
 go_upto_region 1 with fail
 obtain ⟨wz, j_, r_, ewz, ej_, er_⟩ : ∃ wz j_ r_, wz = (w.alloc (.cells #[.slice U0 32 cu0, .slice D0 32 cd0, .slice AC nC cC, .slice AZ0 nL0 cL0, .int .i64 (net : Int), .int .i64 (sent : Int)] 36)).alloc (.cells #[.slice none 0 0, .slice none 0 0, .slice none 0 0, .slice none 0 0, .int .i64 0, .int .i64 0] 36) ∧ j_ = w.heap.size ∧ r_ = w.heap.size + 1 := ⟨_, _, _, rfl, rfl, rfl⟩; have hb : Below w.heap.size w wz := by rw [ewz]; exact below_alloc2 _ _ _
 have BJ := qq (show Blk wz j_ 36 #[.slice U0 32 cu0, .slice D0 32 cd0, .slice AC nC cC, .slice AZ0 nL0 cL0, .int .i64 (net : Int), .int .i64 (sent : Int)] by rw [ewz, ej_]; exact blk_new2_0 _ _ _ _ _); have BR := qq (show Blk wz r_ 36 #[.slice none 0 0, .slice none 0 0, .slice none 0 0, .slice none 0 0, .int .i64 0, .int .i64 0] by rw [ewz, er_]; exact blk_new2_1 _ _ _ _ _); have wr_ : w.heap.size <= r_ := by omega
 rw [<- ewz, <- er_, <- ej_]; have RW := qq hb; clear hb ewz ej_ er_
 go_wp2_with (refine wpList_load_part rfl 36 _ rfl j_ 0 36 [] [.slice U0 32 cu0, .slice D0 32 cd0, .slice AC nC cC, .slice AZ0 nL0 cL0, .int .i64 (net : Int), .int .i64 (sent : Int)] [] _ rfl BJ.out rfl Tryz.underlying36 rfl infoJar ?_)
 refine (jvalid_any _ _ _ (HJ0.out.stays RW.out) HO.out).mono ?_; rintro e y0 ⟨rfl, hb⟩; have BJ := qs BJ hb; have BR := qs BR hb; have RW := qt RW hb; clear hb
 go_wp2_with (refine wpList_load_part rfl 36 _ rfl j_ 0 36 [] [.slice U0 32 cu0, .slice D0 32 cd0, .slice AC nC cC, .slice AZ0 nL0 cL0, .int .i64 (net : Int), .int .i64 (sent : Int)] [] _ rfl BJ.out rfl Tryz.underlying36 rfl infoJar ?_)
 refine (jtake_any _ _ c0 rest _ (HJ0.out.stays RW.out) HO.out rfl).mono ?_; rintro e y1 ⟨v', A5, c5, rfl, hJ, hY, hb⟩; have BR := qs BR hb; have RW := qt RW hb; have hJ' := hJ; obtain ⟨U, cu, D, cd, AC1, nC1, cC1, AZ, nL, cL, rfl, _, _, hLx, _⟩ := hJ'; have HC1 := qq (show nC1 = rest.length from hLx.len.symm); have HJ := qq hJ; have HY := qq hY; clear hb BJ hJ hY hLx
 go_upto_region 4 with (refine wpList_store_part rfl 36 _ _ rfl y1.heap.size 0 36 [] [.slice none 0 0, .slice none 0 0, .slice none 0 0, .slice none 0 0, .int .i64 0, .int .i64 0] [] [.slice U 32 cu, .slice D 32 cd, .slice AC1 nC1 cC1, .slice AZ nL cL, .int .i64 (net : Int), .int .i64 ((sent : Int) + 1)] rfl rfl (Blk.new _ _ _) rfl rfl infoJar (by simp [Value.oneCell']) ?_; intro yT D9 G; have G := below_new_store G; rw [List.append_nil, List.nil_append] at D9)
 obtain ⟨o_, eo⟩ : ∃ o_, o_ = y1.heap.size := ⟨_, rfl⟩; rw [<- eo] at D9 ⊢; have BO := qq D9; have BR := qs BR G; have HJ := qs HJ G; have HY := qs HY G; have RW := qt RW G; have HU := qq (HU0.out.stays RW.out); have HN := qq (HN0.out.stays RW.out); clear G D9 eo
 go_wp2_with fail
 refine (ask_any t _).mono ?_; rintro e y3 ⟨rfl, hb⟩; have RT := qq hb; have HY3 := qs HY hb; have HU3 := qs HU hb; clear hb


 go_upto_region 7 with (refine wpList_store_part rfl 51 _ _ rfl (y3.heap.size + 1) 0 51 [] [.int .i64 0, .int .i64 0, .int .i64 0, .int .i64 0, .int .i64 0, .int .i64 0, .int .u32 0, .int .u32 0, .int .u32 0, .int .u64 0, .int .u64 0, .int .u64 0, .int .u64 0, .slice none 0 0, .slice none 0 0, .bool false] [] [.int .i64 0, .int .i64 4, .int .i64 3, .int .i64 0, .int .i64 6, .int .i64 0, .int .u32 0, .int .u32 0, .int .u32 0, .int .u64 0, .int .u64 0, .int .u64 0, .int .u64 (t : Int), .slice (some ⟨y3.heap.size, 0, none⟩) 2 2, .slice none 0 0, .bool false] rfl rfl (blk_newm _ _ _ _) rfl rfl infoPk (by simp [Value.oneCell']) ?_; intro y5 D9 G; rw [List.append_nil, List.nil_append] at D9)
 obtain ⟨y4, ey4⟩ : ∃ y4, y4 = y3.alloc (.cells #[.int .i64 260, .slice Au 32 cu', .int .i64 516, .slice A5 104 c5] 97) := ⟨_, rfl⟩; obtain ⟨g0, eg0⟩ : ∃ g0, g0 = y3.heap.size := ⟨_, rfl⟩; have HOW : Hid (OwnItems 2 encFld Prod.snd 97 y4 yT.heap.size (some ⟨g0, 0, none⟩) 2 2 (qFs uq c0 0)) := by
  rw [ey4, eg0]; exact own_twoF (r1 := (260, uq)) (r2 := (516, c0)) HU3.out HY3.out RT.out.size
 have hb4 : Below y3.heap.size y3 y4 := by rw [ey4]; exact below_alloc1 _ _
 have hg0 : y4.heap.size = g0 + 1 := by rw [ey4, eg0]; simp
 rw [<- ey4] at G; rw [<- eg0] at D9 G ⊢; rw [<- hg0] at D9 G ⊢; have G := below_new_store G; obtain ⟨p_, ep⟩ : ∃ p_, p_ = y4.heap.size := ⟨_, rfl⟩; rw [<- ep] at D9 ⊢; have BT := qq D9; have pT : yT.heap.size <= p_ := by rw [ep]; exact Nat.le_trans RT.out.size hb4.size
 have RT := qq ((RT.out.trans (hb4.mono RT.out.size)).trans (G.mono (Nat.le_trans RT.out.size hb4.size))); have HOW := qs HOW G; clear ey4 eg0 hb4 hg0 G D9 ep HU3 HY3; have wK : IntKind.i64.wrap (8 - (nC1 : Int)) = (kr : Int) + 1 := by
  have h1 := HKR.out; have h2 := HC1.out; rw [show (8 : Int) - (nC1 : Int) = (kr : Int) + 1 by omega]; exact IntWalk.i64_in _ (by omega)
 have hkr7 : kr <= 7 := by have h1 := HKR.out; omega
 have wK2 : IntKind.i64.wrap (kr : Int) = (kr : Int) := IntWalk.i64_in _ (by omega); have BO1 := qq (BO.out.stays RT.out)
 go_wp2_with (refine wpList_load_part rfl 36 _ rfl o_ 0 36 [] [.slice U 32 cu, .slice D 32 cd, .slice AC1 nC1 cC1, .slice AZ nL cL, .int .i64 (net : Int), .int .i64 ((sent : Int) + 1)] [] _ rfl BO1.out rfl Tryz.underlying36 rfl infoJar ?_)
 refine (room_any U D AC1 AZ cu cd nC1 cC1 nL cL _ _ _ _ wK).mono ?_; rintro e y6 ⟨rfl, hb⟩; have BT := qs BT hb; have HOW := qs HOW hb; have RT := qt RT hb; clear hb BO1 wK; go_wp2
 go_loopw [51] (fun i wr => ∃ (k co : Nat) (AO : Option Addr), k <= kr ∧ i = .int .i64 k ∧ Hid (OwnItems 2 encFld Prod.snd 97 wr yT.heap.size AO (2 + k) co (qFs uq c0 k)) ∧ Hid (Blk wr p_ 51 #[.int .i64 0, .int .i64 4, .int .i64 3, .int .i64 0, .int .i64 6, .int .i64 0, .int .u32 0, .int .u32 0, .int .u32 0, .int .u64 0, .int .u64 0, .int .u64 0, .int .u64 (t : Int), .slice AO (2 + k) co, .slice none 0 0, .bool false]) ∧ Below yT.heap.size yT wr) (fun i _ => kr - (intOf i).toNat)
 case atStart => exact ⟨0, 2, _, Nat.zero_le _, rfl, HOW.out, BT.out, RT.out⟩
 case round =>
  clear HOW BT RT; obtain ⟨k, co, AO, hk, rfl, HOW, BT, hbr⟩ := hrel; have RT := qq hbr
  by_cases hkn : k < kr
  · have hki : (k : Int) < (kr : Int) := by omega
    clear hbr
    go_wp2_with fail
    obtain ⟨y2, ey2⟩ : ∃ y2, y2 = wr := ⟨_, rfl⟩; subst ey2; refine mono_start (fun _ => True) [pv (.pointer (some ⟨p_, 13, none⟩)), pv (.slice AO (2 + k) co), mv (fun v u => ∃ b', v = .slice (some ⟨b', 0, none⟩) 104 104 ∧ Bytes u (some ⟨b', 0, none⟩) 104 104 z104 ∧ y2.heap.size <= b'), mv (fun v u => ∃ b', v = .agg #[.int .i64 772, .slice (some ⟨b', 0, none⟩) 104 104] ∧ Bytes u (some ⟨b', 0, none⟩) 104 104 z104 ∧ y2.heap.size <= b'), mv (fun v u => ∃ g' b', v = .slice (some ⟨g', 0, none⟩) 1 1 ∧ Rd u 2 (some ⟨g', 0, none⟩) 1 1 [.int .i64 772, .slice (some ⟨b', 0, none⟩) 104 104] ∧ Bytes u (some ⟨b', 0, none⟩) 104 104 z104 ∧ y2.heap.size <= b')] (by kernel_rfl) (by kernel_rfl) (fun OPS AV AL K w0 hO hA hL hK hb0 hz => ?_); refine step_pv (d := (some 53)) (hO.out 0 _ rfl) rfl rfl (fun wq hw => ?_) ?_
    · clear hO hA hL hK
      go_simp; try first | with_reducible rfl | assumption | decide
    try simp only [qp, qn]
    refine step_pg (d := (some 54)) (hO.out 1 _ rfl) rfl rfl (fun wq hw gt => ?_) ?_
    · have hx : Below y2.heap.size y2 wq := hb0.trans (hw.mono hb0.size); have k1 := (BT.out.stays hx).cell 13; clear gt hO hA hL hK
      go_simp; try first | with_reducible rfl | assumption | decide
    try simp only [qp, qn]
    refine step_mv (d := (some 55)) (hO.out 2 _ rfl) rfl rfl (fun wq hw gt => ?_) (fun v_2 x_2 => ?_)
    · have hx : Below y2.heap.size y2 wq := hb0.trans (hw.mono hb0.size); have hm := make_z104 wq; refine ⟨_, _, ?_, ⟨_, rfl, blk_z104 wq, hx.size⟩, (Below.refl _ _).alloc (Nat.le_refl _) _⟩; clear gt hO hA hL hK
      go_simp; try with_reducible rfl
    try simp only [qp, qn]
    refine step_mv (d := (some 56)) (hO.out 3 _ rfl) rfl rfl (fun wq hw gt => ?_) (fun v_3 x_3 => ?_)
    · have hx : Below y2.heap.size y2 wq := hb0.trans (hw.mono hb0.size); obtain ⟨⟨b', rfl, h1, h2⟩, hb1⟩ := (gt 2 (hA.out 3 2 (by kernel_rfl))); refine ⟨_, _, ?_, ⟨b', rfl, h1.stays hb1, h2⟩, Below.refl _ _⟩; clear gt hO hA hL hK
      go_simp; try with_reducible rfl
    try simp only [qp, qn]
    refine step_mv (d := (some 57)) (hO.out 4 _ rfl) rfl rfl (fun wq hw gt => ?_) (fun v_4 x_4 => ?_)
    · have hx : Below y2.heap.size y2 wq := hb0.trans (hw.mono hb0.size); obtain ⟨⟨b', rfl, h1, h2⟩, hb1⟩ := (gt 3 (hA.out 4 3 (by kernel_rfl))); refine ⟨_, _, ?_, ⟨_, b', rfl, rd_pair _ _ _ 97, (h1.stays hb1).stays (below_alloc1 _ _), h2⟩, (Below.refl _ _).alloc (Nat.le_refl _) _⟩; clear gt hO hA hL hK
      go_simp; try with_reducible rfl
    try simp only [qp, qn]
    refine fun wq hw gt => hK.out _ _ ?_
    obtain ⟨⟨g', b', rfl, h1, h2, h3⟩, hb4⟩ := (gt 4 (hL.out 4 (by kernel_rfl))); have hx : Below y2.heap.size y2 wq := hb0.trans (hw.mono hb0.size); clear gt hO hA hL hK; have h1 := h1.stays hb4; have h2 := h2.stays hb4; have HOLT : Hid (∀ j, (Value.slice AO (2 + k) co).ownBlock = some j -> j < y2.heap.size) := HOW.out.lt; have BT := qs BT hx; have HOW := qs HOW hx; have RT := qt RT hx; have hk9 := HOW.out.cap; obtain ⟨A8, c8, w8, hrun8, h8, hg8, _⟩ := run_append_items (P := Tryz.prog) 49 49 i0 (.agg #[.int .i64 0, .slice none 0 0]) 32 Tryz.underlying49 hi hz0 hz1 hz2 rfl (by decide) HOW.out ((772, z104) : Int × List UInt8) (A1 := some ⟨b', 0, none⟩) (n1 := 104) (c1 := 104) rfl h1 (by simp [encFld, Value.oneCell']) h2 (fun a ha _ e => by injection ha with ha; subst ha; have := HOLT.out _ e; simp at this; omega) (by unfold maxLen; omega) (by omega) RT.out.size; clear hx hw hz hb0 hb4; have neT := own_ne' HOW.out BT.out (by decide); have BT := qq (BT.out.grown hg8 neT.symm); have RT := qq (RT.out.grown hg8 RT.out.size HOW.out.old); refine take_do (j := 5) (d := some 58) (v := .slice A8 (2 + k + 1) c8) (w2 := w8) rfl rfl (by kernel_rfl) rfl (Or.inl (exec_append rfl rfl rfl hrun8)) trivial ?_; try simp only [qp, qn]
    refine take_do (j := 6) (d := some 59) (v := .pointer (some ⟨p_, 13, none⟩)) (w2 := w8) rfl rfl (by kernel_rfl) rfl (Or.inl (by go_simp; try with_reducible rfl)) trivial ?_; try simp only [qp, qn]
    have f2 := BT.out.frozen 13; have k2 := BT.out.cell 13; refine take_do (j := 7) (d := none) (v := undef) (w2 := w8.setCell ⟨p_, 13, none⟩ (.slice A8 (2 + k + 1) c8)) rfl rfl (by kernel_rfl) rfl (Or.inr ⟨rfl, by go_simp; try with_reducible rfl⟩) trivial ?_; try simp only [qp, qn]
    refine wpAnyH_done (by kernel_rfl) ?_ _; have G9 : w8.grownBy (w8.setCell ⟨p_, 13, none⟩ (.slice A8 (2 + k + 1) c8)) (some p_) := grown_put (World.grownBy.refl _ _) 13 _; have BT9 := BT.out.put 13 (.slice A8 (2 + k + 1) c8); have HO9 := qq (h8.keptB BT.out (by decide) rfl G9); have RT := qq (RT.out.grown G9 RT.out.size (fun k hk => by cases hk; exact pT)); obtain ⟨y9, hy9⟩ : ∃ y9, w8.setCell ⟨p_, 13, none⟩ (.slice A8 (2 + k + 1) c8) = y9 := ⟨_, rfl⟩; rw [hy9] at BT9 HO9 RT ⊢; have BT9 : Hid (Blk y9 p_ 51 #[.int .i64 0, .int .i64 4, .int .i64 3, .int .i64 0, .int .i64 6, .int .i64 0, .int .u32 0, .int .u32 0, .int .u32 0, .int .u64 0, .int .u64 0, .int .u64 0, .int .u64 (t : Int), .slice A8 (2 + k + 1) c8, .slice none 0 0, .bool false]) := BT9; have HO9 : Hid (OwnItems 2 encFld Prod.snd 97 y9 yT.heap.size A8 (2 + k + 1) c8 (qFs uq c0 (k + 1))) := by rw [Hid, qFs_succ]; exact HO9.out
    clear hy9 G9 f2 k2 hrun8 h8 hg8 neT h1 h2 h3 BT HOW; go_wp2
    go_roundw
    case rel => exact ⟨k + 1, c8, A8, by omega, by go_num, HO9.out, BT9.out, RT.out⟩
    case measure => simp [intOf]; omega
  · obtain rfl : k = kr := by omega
    clear hkn hk; obtain ⟨wx, hwx⟩ : ∃ wx, wx = wr := ⟨_, rfl⟩; subst hwx; have BO := qs BO hbr; have BR := qs BR hbr; have HJ := qs HJ hbr; have HN := qs HN hbr; have RW := qt RW hbr; have HPR : Hid (Calls Tryz.prog 41 #[.slice U 32 cu, .agg #[.int .i64 0, .int .i64 4, .int .i64 3, .int .i64 0, .int .i64 6, .int .i64 0, .int .u32 0, .int .u32 0, .int .u32 0, .int .u64 0, .int .u64 0, .int .u64 0, .int .u64 (t : Int), .slice AO (2 + k) co, .slice none 0 0, .bool false], .slice An 16 cn] wx fun e w' => ∃ A' c', e = .returned (.tuple #[.slice A' (88 + totX (qFs uq c0 k) + 0) c', .int .i64 0]) ∧ Bytes w' A' (88 + totX (qFs uq c0 k) + 0) c' (protB up (askH t) (qFs uq c0 k) [] nonce) ∧ Below wx.heap.size wx w') :=
      protect_any (askH t) (askH_ok t ht) U cu up AO (2 + k) co (qFs uq c0 k) none 0 0 [] false An cn nonce wx HJ.out.parts.1 HOW.out.flds (FldL.nil wx) HN.out HE.out rfl (by omega) (by decide) HX.out HF.out
    have ko0 := BO.out.cell 0; clear hbr RT HOW
    go_wp2_with (refine wpList_load_part rfl 51 _ rfl p_ 0 51 [] [.int .i64 0, .int .i64 4, .int .i64 3, .int .i64 0, .int .i64 6, .int .i64 0, .int .u32 0, .int .u32 0, .int .u32 0, .int .u64 0, .int .u64 0, .int .u64 0, .int .u64 (t : Int), .slice AO (2 + k) co, .slice none 0 0, .bool false] [] _ rfl BT.out rfl Tryz.underlying51 rfl infoPk ?_)
    refine HPR.out.mono ?_; rintro e y7 ⟨A9, c9, rfl, hB9, hb⟩; have HB9 := qq hB9; have BO := qs BO hb; have BR := qs BR hb; have HJ := qs HJ hb; have RW := qt RW hb; clear hb hB9 ko0 HPR BT
    go_wp2_with (first | (refine wpList_load_part rfl 36 _ rfl o_ 0 36 [] [.slice U 32 cu, .slice D 32 cd, .slice AC1 nC1 cC1, .slice AZ nL cL, .int .i64 (net : Int), .int .i64 ((sent : Int) + 1)] [] _ rfl BO.out rfl Tryz.underlying36 rfl infoJar ?_) | (refine wpList_store_part rfl 36 _ _ rfl r_ 0 36 [] [.slice none 0 0, .slice none 0 0, .slice none 0 0, .slice none 0 0, .int .i64 0, .int .i64 0] [] [.slice U 32 cu, .slice D 32 cd, .slice AC1 nC1 cC1, .slice AZ nL cL, .int .i64 (net : Int), .int .i64 ((sent : Int) + 1)] rfl rfl BR.out rfl rfl infoJar (by simp [Value.oneCell']) ?_; intro y9 D9 G9; rw [List.append_nil, List.nil_append] at D9))
    refine bodyPost_ret (results_whole3 rfl _ _ r_ _ _ _ _ _ rfl rfl rfl D9 Tryz.underlying36 rfl infoJar) rfl ⟨_, A9, c9, rfl, HJ.out.keptZ BR.out rfl rfl (fun x hx => HO.out.each x (List.mem_cons_of_mem _ hx)) G9, HB9.out.kept G9 (off_block HB9.out BR.out rfl), RW.out.grown G9 RW.out.size (fun k hk => by cases hk; exact wr_)⟩
end Go.Proofs.YtiemnacoebkalaaGreat
