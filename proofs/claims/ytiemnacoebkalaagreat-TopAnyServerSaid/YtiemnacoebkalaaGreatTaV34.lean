import Derived.WalkMore
import Derived.Test.YtiemnacoebkalaaGreatTaV33
set_option linter.all false
set_option maxRecDepth 100000
set_option maxHeartbeats 4000000
namespace Go.Proofs.YtiemnacoebkalaaGreat
open Go Go.RowKit
theorem results_cct {P : Program} {fn : Func} {r s t : Tmp} {ty ty2 : TypeId} (h : fn.results = #[.cell r ty, .cell s ty2, .tmp t]) (tmps : Array Value) (w : World) (b b2 : Nat) (T T2 : TypeId) (cs cs2 : List Value) (d d2 : TypeDesc) (v : Value) (hx : tmps.getD r undef = .pointer (some ⟨b, 0, none⟩)) (hx2 : tmps.getD s undef = .pointer (some ⟨b2, 0, none⟩)) (hv : tmps.getD t undef = v) (hB : Blk w b T cs.toArray) (hB2 : Blk w b2 T2 cs2.toArray) (hu : P.underlying ty = some d) (hd : d.isRow = true) (hi : (P.info? ty).map (·.size) = some cs.length) (hu2 : P.underlying ty2 = some d2) (hd2 : d2.isRow = true) (hi2 : (P.info? ty2).map (·.size) = some cs2.length) :
    (results fn tmps).run P w = .ok (.tuple #[.agg cs.toArray, .agg cs2.toArray, v]) w := by
 have hr : w.rangeAt b 0 cs := by
  have := Blk.range (pre := []) (mid := cs) (post := []) (by simpa using hB)
  simpa using this
 have hr2 : w.rangeAt b2 0 cs2 := by
  have := Blk.range (pre := []) (mid := cs2) (post := []) (by simpa using hB2)
  simpa using this
 have hl := run_loadVar_mid (P := P) w b 0 ty cs d hr hu hd hi; have hl2 := run_loadVar_mid (P := P) w b2 0 ty2 cs2 d2 hr2 hu2 hd2 hi2; unfold results; rw [h]; simp only [Array.mapM_eq_mapM_toList, List.mapM_cons, List.mapM_nil, hx, hx2, hv, asAddr, Sem.run_bind, Sem.run_pure, Sem.run_map, Result.andThen_ok, hl, hl2]; simp
theorem PQ.noGoto {P : Program} {Q : Exit -> Act -> World -> Prop} (h : PQ Q) : PQ (Exit.noGoto Q) := fun c a d v w h' => h c a d v w h'
def ckF (cs : List (List UInt8)) : List (Int × List UInt8) := cs.map fun c => (516, c)
theorem pad32 (u : List UInt8) (h : u.length = 32) : padX (260, u) = (260, u) := by
 unfold padX; simp only [h]; rw [show exSz 32 - (4 + 32) = 0 by decide]; simp
theorem pad104 (c : List UInt8) (h : c.length = 104) : padX (516, c) = (516, c) := by
 unfold padX; simp only [h]; rw [show exSz 104 - (4 + 104) = 0 by decide]; simp
theorem ckF_pad (cs : List (List UInt8)) (h : ∀ x ∈ cs, x.length = 104) : (ckF cs).map padX = ckF cs := by
 unfold ckF; rw [List.map_map]; exact List.map_congr_left fun x hx => pad104 x (h x hx)
theorem ckF_T (cs : List (List UInt8)) (i : Nat) (h : i < cs.length) : fldT (ckF cs) i = 516 := by simp [fldT, ckF, List.getD, h]
theorem ckF_D (cs : List (List UInt8)) (i : Nat) (h : i < cs.length) : fldD (ckF cs) i = listAt cs i := by rw [listAt_get h]; simp [fldD, ckF, List.getD, h]
theorem janswer_any (v : Value) (j : JarT) (Au : Option Addr) (cu1 : Nat) (uq1 uq : List UInt8) (AB : Option Addr) (nB cB : Nat) (x0 x1 x3 : Nat) (x4 x5 : Int) (x6 x7 x8 x9 x10 x11 x12 : Nat) (cks : List (List UInt8)) (nonce : List UInt8) (w : World) (hj : JarV w v j) (ho : j.ok) (hu : Bytes w Au 32 cu1 uq1) (hk : ((⟨x0, x1, 4, x3, x4, x5, x6, x7, x8, x9, x10, x11, x12⟩ : HdT)).ok)
    (hb : Bytes w AB nB cB (protB j.dn (⟨x0, x1, 4, x3, x4, x5, x6, x7, x8, x9, x10, x11, x12⟩ : HdT) [(260, uq)] (ckF cks) nonce)) (hnn : nonce.length = 16) (huq : uq.length = 32) (hcl : ∀ x ∈ cks, x.length = 104) (hc8 : cks.length <= 8) (e1 : errX [(260, uq)] = 0) (e2 : errX (ckF cks) = 0) (hsum : totX [(260, uq)] + totX (ckF cks) <= 1192) :
    Calls Tryz.prog 12 #[v, .slice Au 32 cu1, .slice AB nB cB] w fun e w' => ((uq = uq1 ∧ ∃ v' A1 c1 A2 m2 c2, e = .returned (.tuple #[v', .agg #[.int .i64 (x0 : Int), .int .i64 (x1 : Int), .int .i64 4, .int .i64 (x3 : Int), .int .i64 x4, .int .i64 x5, .int .u32 (x6 : Int), .int .u32 (x7 : Int), .int .u32 (x8 : Int), .int .u64 (x9 : Int), .int .u64 (x10 : Int), .int .u64 (x11 : Int), .int .u64 (x12 : Int), .slice A1 1 c1, .slice A2 m2 c2, .bool true], .int .i64 0]) ∧ JarV w' v' { j with cs := addL j.last j.cs cks }) ∨ (uq ≠ uq1 ∧ e = .returned (.tuple #[.agg #[.slice none 0 0, .slice none 0 0, .slice none 0 0, .slice none 0 0, .int .i64 0, .int .i64 0], .agg #[.int .i64 0, .int .i64 0, .int .i64 0, .int .i64 0, .int .i64 0, .int .i64 0, .int .u32 0, .int .u32 0, .int .u32 0, .int .u64 0, .int .u64 0, .int .u64 0, .int .u64 0, .slice none 0 0, .slice none 0 0, .bool false], .int .i64 7]))) ∧ Below w.heap.size w w' := by
 obtain ⟨i0, hi, hz0, hz1, hz2⟩ := info_parts infoBytesA; have hj' := hj; obtain ⟨U, cu, D, cd, AC, nC, cC, AZ0, nL0, cL0, rfl, _, _, _, _⟩ := hj'; obtain ⟨up, dn, cs, last, net, sent⟩ := j; have HJ0 := qq hj; have HO := qq ho; have HU0 := qq hu; have HCL := qq hcl; have HOP := qq (fun (W : World) (hW : Below w.heap.size w W) => prOpen_any (⟨x0, x1, 4, x3, x4, x5, x6, x7, x8, x9, x10, x11, x12⟩ : HdT) hk D cd dn AB nB cB [(260, uq)] (ckF cks) nonce W ((hj.stays hW).parts.2.1) (hb.stays hW) hnn e1 e2 (show 1 <= 23 by decide) (by unfold ckF; rw [List.length_map]; omega) hsum rfl); have HUQ := qq huq; have HC8 := qq hc8; clear hj ho hu hk hb hnn huq hcl hc8 e1 e2 hsum
 go_enter Tryz.func12, Tryz.ntmps12
 go_upto_region 1 with fail
 obtain ⟨wz, j_, r1_, r2_, ewz, ej_, er1, er2⟩ : ∃ wz j_ r1_ r2_, wz = ((w.alloc (.cells #[.slice U 32 cu, .slice D 32 cd, .slice AC nC cC, .slice AZ0 nL0 cL0, .int .i64 (net : Int), .int .i64 (sent : Int)] 36)).alloc (.cells #[.slice none 0 0, .slice none 0 0, .slice none 0 0, .slice none 0 0, .int .i64 0, .int .i64 0] 36)).alloc (.cells #[.int .i64 0, .int .i64 0, .int .i64 0, .int .i64 0, .int .i64 0, .int .i64 0, .int .u32 0, .int .u32 0, .int .u32 0, .int .u64 0, .int .u64 0, .int .u64 0, .int .u64 0, .slice none 0 0, .slice none 0 0, .bool false] 51) ∧ j_ = w.heap.size ∧ r1_ = w.heap.size + 1 ∧ r2_ = w.heap.size + 1 + 1 := ⟨_, _, _, _, rfl, rfl, rfl, rfl⟩; have hb : Below w.heap.size w wz := by rw [ewz]; exact below_alloc3 _ _ _ _
 have BJ := qq (show Blk wz j_ 36 #[.slice U 32 cu, .slice D 32 cd, .slice AC nC cC, .slice AZ0 nL0 cL0, .int .i64 (net : Int), .int .i64 (sent : Int)] by rw [ewz, ej_]; exact blk_new3_0 _ _ _ _ _ _ _); have BR1 := qq (show Blk wz r1_ 36 #[.slice none 0 0, .slice none 0 0, .slice none 0 0, .slice none 0 0, .int .i64 0, .int .i64 0] by rw [ewz, er1]; exact blk_new3_1 _ _ _ _ _ _ _); have BR2 := qq (show Blk wz r2_ 51 #[.int .i64 0, .int .i64 0, .int .i64 0, .int .i64 0, .int .i64 0, .int .i64 0, .int .u32 0, .int .u32 0, .int .u32 0, .int .u64 0, .int .u64 0, .int .u64 0, .int .u64 0, .slice none 0 0, .slice none 0 0, .bool false] by rw [ewz, er2]; exact blk_new3_2 _ _ _ _ _ _ _); have wr1 : w.heap.size <= r1_ := by omega
 have wr2 : w.heap.size <= r2_ := by omega
 have jr1 : j_ < r1_ := by omega
 have r12 : r1_ < r2_ := by omega
 rw [<- ewz, <- er2, <- er1, <- ej_]; have RW := qq hb; clear hb ewz ej_ er1 er2
 go_step3
 go_wp2_with (refine wpList_load_part rfl 36 _ rfl j_ 0 36 [] [.slice U 32 cu, .slice D 32 cd, .slice AC nC cC, .slice AZ0 nL0 cL0, .int .i64 (net : Int), .int .i64 (sent : Int)] [] _ rfl BJ.out rfl Tryz.underlying36 rfl infoJar ?_)
 refine (jvalid_any _ _ _ (HJ0.out.stays RW.out) HO.out).mono ?_; rintro e y0 ⟨rfl, hb⟩; have BJ := qs BJ hb; have BR1 := qs BR1 hb; have BR2 := qs BR2 hb; have RW := qt RW hb; clear hb; have k1 := BJ.out.cell 1
 go_wp2_with fail
 refine (HOP.out _ RW.out).mono ?_; rintro e y1 ⟨A1, m1, c1, A2, m2, c2, rfl, hF1, hF2, hb⟩; rw [List.map_cons, List.map_nil, pad32 uq HUQ.out] at hF1; rw [ckF_pad cks HCL.out] at hF2; obtain rfl : m1 = 1 := hF1.len.symm; have hm2 : cks.length = m2 := by rw [<- hF2.len]; simp [ckF]
 have hF2le := hF2.le; have hF2cap := hF2.cap; have HM2 := qq hm2; have hm28 : m2 <= 8 := by rw [<- hm2]; exact HC8.out
 have BJ := qs BJ hb; have BR1 := qs BR1 hb; have BR2 := qs BR2 hb; have RW := qt RW hb; have HF1 := qq hF1; have HF2 := qq hF2; clear hb hF1 hF2 hm2 k1; unfold pkA
 go_upto_region 4 with (refine wpList_store_part rfl 51 _ _ rfl y1.heap.size 0 51 [] [.int .i64 0, .int .i64 0, .int .i64 0, .int .i64 0, .int .i64 0, .int .i64 0, .int .u32 0, .int .u32 0, .int .u32 0, .int .u64 0, .int .u64 0, .int .u64 0, .int .u64 0, .slice none 0 0, .slice none 0 0, .bool false] [] [.int .i64 (x0 : Int), .int .i64 (x1 : Int), .int .i64 4, .int .i64 (x3 : Int), .int .i64 x4, .int .i64 x5, .int .u32 (x6 : Int), .int .u32 (x7 : Int), .int .u32 (x8 : Int), .int .u64 (x9 : Int), .int .u64 (x10 : Int), .int .u64 (x11 : Int), .int .u64 (x12 : Int), .slice A1 1 c1, .slice A2 m2 c2, .bool true] rfl rfl (Blk.new _ _ _) rfl rfl infoPk (by simp [Value.oneCell']) ?_; intro y2 D9 G; have G := below_new_store G; rw [List.append_nil, List.nil_append] at D9)
 obtain ⟨p_, ep⟩ : ∃ p_, p_ = y1.heap.size := ⟨_, rfl⟩; rw [<- ep] at D9 ⊢; have BK := qq D9; have r2p : r2_ < p_ := by rw [ep]; exact BR2.out.lt
 have BJ := qs BJ G; have BR1 := qs BR1 G; have BR2 := qs BR2 G; have HF1 := qs HF1 G; have HF2 := qs HF2 G; have RW := qt RW G; clear G D9 ep; have k2 := BK.out.cell 2; have k13 := BK.out.cell 13
 go_wp2_with fail
 refine (find_any A1 1 c1 [(260, uq)] 260 _ HF1.out (by decide)).mono ?_; rintro e y8 ⟨AI, mI, cI, rfl, hI, hb⟩; have hfx : findX [(260, uq)] 260 1 = [0] := rfl; rw [hfx] at hI; obtain rfl : mI = 1 := hI.len.symm; have BJ := qs BJ hb; have BR1 := qs BR1 hb; have BR2 := qs BR2 hb; have HF1 := qs HF1 hb; have HF2 := qs HF2 hb; have BK := qs BK hb; have RW := qt RW hb; obtain ⟨bI, oI, rfl, hcI⟩ := hI.at_ (i := 0) (by decide); have hcI : y8.cell? ⟨bI, oI, none⟩ = some (.int .i64 0) := hcI; have hcIc : 1 <= cI := hI.2.1; obtain ⟨b1, o1, Af, nf, cf, rfl, _, hcF, hF⟩ := HF1.out.at_ (i := 0) (by decide); have hcF : y8.cell? ⟨b1, o1 + 1, none⟩ = some (.slice Af nf cf) := by simpa using hcF
 have hF : Bytes y8 Af nf cf uq := hF; obtain rfl : nf = 32 := by rw [<- hF.len]; exact HUQ.out
 have hcI := qq hcI; have hcF := qq hcF; have HF := qq hF; have HU1 := qq (HU0.out.stays RW.out); have h1c : 1 <= c1 := HF1.out.le; clear hb hI hF k2 k13 hfx
 go_wp2_with fail
 refine take_start (S := fun u => Below y8.heap.size y8 u) (by kernel_rfl) ?hPQ (Below.refl _ _).drew (fun hPQ hHeld => ?rest)
 case hPQ => (repeat (with_reducible first | refine PQ.then ?_ | refine PQ.block ?_ | refine PQ.noGoto ?_)); exact fun _ _ d _ _ h => by cases d <;> exact h
 case rest =>
 obtain ⟨yd, hyd⟩ : ∃ yd, y8.drew = yd := ⟨_, rfl⟩; rw [hyd] at hHeld ⊢; clear hyd; refine qv (i := 0) (d := some 49) (v := .slice (some ⟨bI, oI, none⟩) 1 cI) rfl rfl (by kernel_rfl) hPQ (fun u hu => ?_) hHeld ?_
 · have k1 := (BK.out.stays hu).cell 13; have k2 := cell_stays hu hcI.out; have k3 := cell_stays hu hcF.out; go_simp; try with_reducible rfl
 try simp only [qp, qn]
 refine qv (i := 1) (d := some 50) (v := .int .i64 1) rfl rfl (by kernel_rfl) hPQ (fun u hu => ?_) hHeld ?_
 · have k1 := (BK.out.stays hu).cell 13; have k2 := cell_stays hu hcI.out; have k3 := cell_stays hu hcF.out; go_simp; try with_reducible rfl
 try simp only [qp, qn]
 refine qv (i := 2) (d := some 51) (v := .bool false) rfl rfl (by kernel_rfl) hPQ (fun u hu => ?_) hHeld ?_
 · have k1 := (BK.out.stays hu).cell 13; have k2 := cell_stays hu hcI.out; have k3 := cell_stays hu hcF.out; go_simp; try with_reducible rfl
 try simp only [qp, qn]
 refine qv (i := 3) (d := some 52) (v := .bool false) rfl rfl (by kernel_rfl) hPQ (fun u hu => ?_) hHeld ?_
 · have k1 := (BK.out.stays hu).cell 13; have k2 := cell_stays hu hcI.out; have k3 := cell_stays hu hcF.out; go_simp; try with_reducible rfl
 try simp only [qp, qn]
 refine qv (i := 4) (d := some 53) (v := .pointer (some ⟨p_, 13, none⟩)) rfl rfl (by kernel_rfl) hPQ (fun u hu => ?_) hHeld ?_
 · have k1 := (BK.out.stays hu).cell 13; have k2 := cell_stays hu hcI.out; have k3 := cell_stays hu hcF.out; go_simp; try with_reducible rfl
 try simp only [qp, qn]
 refine qv (i := 5) (d := some 54) (v := .slice (some ⟨b1, o1, none⟩) 1 c1) rfl rfl (by kernel_rfl) hPQ (fun u hu => ?_) hHeld ?_
 · have k1 := (BK.out.stays hu).cell 13; have k2 := cell_stays hu hcI.out; have k3 := cell_stays hu hcF.out; go_simp; try with_reducible rfl
 try simp only [qp, qn]
 refine qv (i := 6) (d := some 55) (v := .slice (some ⟨bI, oI, none⟩) 1 cI) rfl rfl (by kernel_rfl) hPQ (fun u hu => ?_) hHeld ?_
 · have k1 := (BK.out.stays hu).cell 13; have k2 := cell_stays hu hcI.out; have k3 := cell_stays hu hcF.out; go_simp; try with_reducible rfl
 try simp only [qp, qn]
 refine qv (i := 7) (d := some 56) (v := .pointer (some ⟨bI, oI, none⟩)) rfl rfl (by kernel_rfl) hPQ (fun u hu => ?_) hHeld ?_
 · have k1 := (BK.out.stays hu).cell 13; have k2 := cell_stays hu hcI.out; have k3 := cell_stays hu hcF.out; go_simp; try with_reducible rfl
 try simp only [qp, qn]
 refine qv (i := 8) (d := some 57) (v := .int .i64 0) rfl rfl (by kernel_rfl) hPQ (fun u hu => ?_) hHeld ?_
 · have k1 := (BK.out.stays hu).cell 13; have k2 := cell_stays hu hcI.out; have k3 := cell_stays hu hcF.out; go_simp; try with_reducible rfl
 try simp only [qp, qn]
 refine qv (i := 9) (d := some 58) (v := .pointer (some ⟨b1, o1, none⟩)) rfl rfl (by kernel_rfl) hPQ (fun u hu => ?_) hHeld ?_
 · have k1 := (BK.out.stays hu).cell 13; have k2 := cell_stays hu hcI.out; have k3 := cell_stays hu hcF.out; go_simp; try with_reducible rfl
 try simp only [qp, qn]
 refine qv (i := 10) (d := some 59) (v := .pointer (some ⟨b1, o1 + 1, none⟩)) rfl rfl (by kernel_rfl) hPQ (fun u hu => ?_) hHeld ?_
 · have k1 := (BK.out.stays hu).cell 13; have k2 := cell_stays hu hcI.out; have k3 := cell_stays hu hcF.out; go_simp; try with_reducible rfl
 try simp only [qp, qn]
 refine qv (i := 11) (d := some 60) (v := .slice Af 32 cf) rfl rfl (by kernel_rfl) hPQ (fun u hu => ?_) hHeld ?_
 · have k1 := (BK.out.stays hu).cell 13; have k2 := cell_stays hu hcI.out; have k3 := cell_stays hu hcF.out; go_simp; try with_reducible rfl
 try simp only [qp, qn]
 refine qv (i := 12) (d := some 61) (v := .slice Au 32 cu1) rfl rfl (by kernel_rfl) hPQ (fun u hu => ?_) hHeld ?_
 · have k1 := (BK.out.stays hu).cell 13; have k2 := cell_stays hu hcI.out; have k3 := cell_stays hu hcF.out; go_simp; try with_reducible rfl
 try simp only [qp, qn]
 refine take_call (i := 13) (d := some 62) (v := .bool (decide (uq = uq1))) rfl rfl (by kernel_rfl) (by kernel_rfl) (by kernel_rfl) hPQ (by rfl) (fun u hu => (octSame_any Af 32 cf uq Au 32 cu1 uq1 u (HF.out.stays hu) (HU1.out.stays hu)).mono (fun e q hq => ⟨hq.1, hq.2.symm⟩)) (fun u hu => ?_) hHeld ?_
 · go_simp
 try simp only [qp, qn]
 have RW := qt RW hHeld; have BJ := qs BJ hHeld; have BR1 := qs BR1 hHeld; have BR2 := qs BR2 hHeld; have BKd := qs BK hHeld; have HF2 := qs HF2 hHeld
 by_cases hq : uq = uq1
 · have HQ := qq hq; rw [decide_eq_true hq]; refine qv (i := 14) (d := some 63) (v := .bool false) rfl rfl (by kernel_rfl) hPQ (fun u hu => ?_) hHeld ?_
   · go_simp; try with_reducible rfl
   try simp only [qp, qn]
   refine qv (i := 15) (d := some 64) (v := .bool false) rfl rfl (by kernel_rfl) hPQ (fun u hu => ?_) hHeld ?_
   · go_simp; try with_reducible rfl
   try simp only [qp, qn]
   refine wpAnyH_done (by kernel_rfl) ?_ _; clear hPQ hHeld hq BK hcI hcF HF HU1 HF1; have BK := BKd; clear BKd; have k14 := BK.out.cell 14; go_wp2
   go_step3
   go_wp2
   go_loopw [12, 70] (fun t i wr => ∃ (k co : Nat) (AO : Option Addr), k <= m2 ∧ i = .int .i64 k ∧ t = .slice AO k co ∧ Hid (OwnItems 1 encB id 27 wr yd.heap.size AO k co (cks.take k)) ∧ Below yd.heap.size yd wr) (fun _ i _ => m2 - (intOf i).toNat)
   case atStart => exact ⟨0, 0, none, Nat.zero_le _, rfl, rfl, OwnItems.nil _ _, Below.refl _ _⟩
   case round =>
    clear k14; obtain ⟨k, co, AO, hk, rfl, rfl, HOW, hbr⟩ := hrel; have HBR := qq hbr
    by_cases hkn : k < m2
    · have hki : (k : Int) < (m2 : Int) := by omega
      have hkc : k < cks.length := by rw [HM2.out]; exact hkn
      obtain ⟨b5, o5, A5, n5, c5, rfl, hc0, hc1, hy⟩ := (HF2.out.stays hbr).at_ hkn; rw [ckF_T cks k hkc] at hc0; rw [ckF_D cks k hkc] at hy; obtain rfl : n5 = 104 := by rw [<- hy.len, listAt_get hkc]; exact HCL.out _ (List.getElem_mem hkc)
      obtain ⟨q, hq9⟩ : ∃ q, o5 + k * 2 = q := ⟨_, rfl⟩; rw [hq9] at hc0 hc1; have HY := qq hy; have HT : Hid (cks.take (k + 1) = cks.take k ++ [listAt cks k]) := by rw [Hid, List.take_succ_eq_append_getElem hkc, listAt_get hkc]
      have HYO : Hid (Off A5 104 (Value.slice AO k co).ownBlock) := by
       obtain ⟨b7, o7, A7, n7, c7, g1, _, g2, g3⟩ := HF2.out.at_ hkn; injection g1 with g1
       injection g1 with g1 g4
       subst g1; subst g4; have g5 := cell_stays hbr g2; rw [hq9] at g5; rw [hc1] at g5; injection g5 with g5
       injection g5 with g5 g6 g7
       subst g5; subst g6; exact Off.old g3 HOW.out.old
      clear hy hkc hbr
      go_upto_region 15 with fail
      obtain ⟨z2, f_, ez2, ef_⟩ : ∃ z2 f_, z2 = wr.alloc (.cells #[.int .i64 516, .slice A5 104 c5] 97) ∧ f_ = wr.heap.size := ⟨_, _, rfl, rfl⟩; rw [<- ez2, <- ef_]; have hx : Below wr.heap.size wr z2 := by rw [ez2]; exact below_alloc1 _ _
      have BF := qq (show Blk z2 f_ 97 #[.int .i64 516, .slice A5 104 c5] by rw [ez2, ef_]; exact Blk.new _ _ _); have HOW := qs HOW hx; have HBR := qt HBR hx; have HY := qs HY hx; clear hx ez2 ef_ hc0 hc1 hq9; have kf0 := BF.out.cell 0; have kf1 := BF.out.cell 1
      go_wp2_with fail
      refine (jcookie_any A5 104 c5 _).mono ?_; rintro e z3 ⟨rfl, rfl⟩; have hk9 := HOW.out.cap; have hx := below_alloc1 z2 (.cells #[.slice A5 104 c5] 27); have hbz : yd.heap.size <= (z2.alloc (.cells #[.slice A5 104 c5] 27)).heap.size := Nat.le_trans HBR.out.size hx.size; have HBX := qt HBR hx; have HOX := qs HOW hx; have HYX := qs HY hx; clear hx
      go_wp2_with (at_builtin; refine append_items_at rfl _ _ 30 rfl i0 _ 24 Tryz.underlying30 hi hz0 hz1 hz2 rfl (by decide) rfl HOX.out rfl (listAt cks k) rfl (rd_one _ _ _) (by simp [encB, Value.oneCell']) HYX.out HYO.out (by unfold maxLen; omega) (by omega) hbz ?_; intro A8 c8 w8 hown8 hg8 hl8; have HG8 := qq hg8; have HO8 := qq hown8; clear hg8 hl8 hown8)
      have R8 := qq (HBX.out.grown HG8.out HBX.out.size HOX.out.old); rw [<- HT.out] at HO8; clear HG8 hbz kf0 kf1; go_wp2
      go_roundw
      case rel => exact ⟨k + 1, c8, A8, by omega, by go_num, rfl, HO8.out, R8.out⟩
      case measure => simp [intOf]; omega
    · obtain rfl : k = m2 := by omega
      clear hkn hk; obtain ⟨y9, hy9⟩ : ∃ y9, y9 = wr := ⟨_, rfl⟩; subst hy9; have h9 := HOW.out; rw [List.take_of_length_le (by rw [HM2.out]; exact Nat.le_refl _)] at h9; have HLS := qq h9.lists; have BJ := qs BJ hbr; have BR1 := qs BR1 hbr; have BR2 := qs BR2 hbr; have BK := qs BK hbr; have RW := qt RW hbr; have HJ := qq (HJ0.out.stays RW.out); clear h9 HOW hbr; have HAD := qq (fun (W : World) (hW : Below y9.heap.size y9 W) => jadded_any _ _ AO k co cks W (HJ.out.stays hW) HO.out.len (by rcases HO.out.last with h | h <;> simp at h <;> simp [h]) (fun x hx => by rw [HO.out.each x hx]; decide) (HLS.out.stays hW) (by omega) (fun x hx => by rw [HCL.out x hx]; decide))
      go_wp2_with fail
      refine take_start (S := fun u => Blk u p_ 51 #[.int .i64 (x0 : Int), .int .i64 (x1 : Int), .int .i64 4, .int .i64 (x3 : Int), .int .i64 x4, .int .i64 x5, .int .u32 (x6 : Int), .int .u32 (x7 : Int), .int .u32 (x8 : Int), .int .u64 (x9 : Int), .int .u64 (x10 : Int), .int .u64 (x11 : Int), .int .u64 (x12 : Int), .slice (some ⟨b1, o1, none⟩) 1 c1, .slice A2 k c2, .bool true] ∧ Blk u j_ 36 #[.slice U 32 cu, .slice D 32 cd, .slice AC nC cC, .slice AZ0 nL0 cL0, .int .i64 (net : Int), .int .i64 (sent : Int)]) (by kernel_rfl) ?hPQ2 ⟨BK.out.stays (Below.refl _ _).drew, BJ.out.stays (Below.refl _ _).drew⟩ (fun hPQ hHeld => ?rest2)
      case hPQ2 => (repeat (with_reducible first | refine PQ.then ?_ | refine PQ.block ?_ | refine PQ.noGoto ?_)); exact fun _ _ d _ _ h => by cases d <;> exact h
      case rest2 =>
      have hx : Below y9.heap.size y9 y9.drew := (Below.refl _ _).drew; obtain ⟨yq, hyq⟩ : ∃ yq, y9.drew = yq := ⟨_, rfl⟩; rw [hyq] at hHeld hx ⊢; clear hyq; have BR1 := qs BR1 hx; have BR2 := qs BR2 hx; have RW := qt RW hx; have HAD := qq (HAD.out yq hx); clear hx; refine qv (i := 0) (d := some 91) (v := .agg #[.slice U 32 cu, .slice D 32 cd, .slice AC nC cC, .slice AZ0 nL0 cL0, .int .i64 (net : Int), .int .i64 (sent : Int)]) rfl rfl (by kernel_rfl) hPQ (fun u hu => ?_) hHeld ?_
      · exact exec_load_part 36 _ rfl j_ 0 36 [] [.slice U 32 cu, .slice D 32 cd, .slice AC nC cC, .slice AZ0 nL0 cL0, .int .i64 (net : Int), .int .i64 (sent : Int)] [] _ rfl hu.2 rfl Tryz.underlying36 rfl infoJar
      try simp only [qp, qn]
      refine qv (i := 1) (d := some 92) (v := .slice AO k co) rfl rfl (by kernel_rfl) hPQ (fun u hu => ?_) hHeld ?_
      · go_simp; try with_reducible rfl
      try simp only [qp, qn]
      refine qv (i := 3) (d := some 94) (v := .agg #[.int .i64 (x0 : Int), .int .i64 (x1 : Int), .int .i64 4, .int .i64 (x3 : Int), .int .i64 x4, .int .i64 x5, .int .u32 (x6 : Int), .int .u32 (x7 : Int), .int .u32 (x8 : Int), .int .u64 (x9 : Int), .int .u64 (x10 : Int), .int .u64 (x11 : Int), .int .u64 (x12 : Int), .slice (some ⟨b1, o1, none⟩) 1 c1, .slice A2 k c2, .bool true]) rfl rfl (by kernel_rfl) hPQ (fun u hu => ?_) hHeld ?_
      · exact exec_load_part 51 _ rfl p_ 0 51 [] [.int .i64 (x0 : Int), .int .i64 (x1 : Int), .int .i64 4, .int .i64 (x3 : Int), .int .i64 x4, .int .i64 x5, .int .u32 (x6 : Int), .int .u32 (x7 : Int), .int .u32 (x8 : Int), .int .u64 (x9 : Int), .int .u64 (x10 : Int), .int .u64 (x11 : Int), .int .u64 (x12 : Int), .slice (some ⟨b1, o1, none⟩) 1 c1, .slice A2 k c2, .bool true] [] _ rfl hu.1 rfl Tryz.underlying51 rfl infoPk
      try simp only [qp, qn]
      refine take_make (j := 2) (d := some 93) (R := fun v w' => JarO w' yq.heap.size v ⟨up, dn, addL last cs cks, last, net, sent⟩ ∧ Below yq.heap.size yq w') rfl rfl (by kernel_rfl) rfl (HAD.out.mono (fun e q h => by obtain ⟨v', h1, h2, h3⟩ := h; exact ⟨v', h1, h2, h3⟩)) (by go_simp) ?_; rintro v w2 ⟨hJO, hb⟩; refine ⟨⟨hHeld.1.stays hb, hHeld.2.stays hb⟩, ?_⟩; have hH2 : Blk w2 p_ 51 #[.int .i64 (x0 : Int), .int .i64 (x1 : Int), .int .i64 4, .int .i64 (x3 : Int), .int .i64 x4, .int .i64 x5, .int .u32 (x6 : Int), .int .u32 (x7 : Int), .int .u32 (x8 : Int), .int .u64 (x9 : Int), .int .u64 (x10 : Int), .int .u64 (x11 : Int), .int .u64 (x12 : Int), .slice (some ⟨b1, o1, none⟩) 1 c1, .slice A2 k c2, .bool true] ∧ Blk w2 j_ 36 #[.slice U 32 cu, .slice D 32 cd, .slice AC nC cC, .slice AZ0 nL0 cL0, .int .i64 (net : Int), .int .i64 (sent : Int)] := ⟨hHeld.1.stays hb, hHeld.2.stays hb⟩; have hr1 : r1_ < yq.heap.size := BR1.out.lt; have hr2 : r2_ < yq.heap.size := BR2.out.lt; have BR1 := qs BR1 hb; have BR2 := qs BR2 hb; have RW := qt RW hb; clear hHeld hb HAD; have hJO' := hJO; obtain ⟨U9, cu9, D9, cd9, AC9, nC9, cC9, AZ9, nL9, cL9, rfl, _⟩ := hJO'; try simp only [qp, qn]
      refine take_store_part2 (j := 4) rfl rfl (by kernel_rfl) rfl 36 _ _ rfl r1_ 0 36 [] [.slice none 0 0, .slice none 0 0, .slice none 0 0, .slice none 0 0, .int .i64 0, .int .i64 0] [] [.slice U9 32 cu9, .slice D9 32 cd9, .slice AC9 nC9 cC9, .slice AZ9 nL9 cL9, .int .i64 (net : Int), .int .i64 (sent : Int)] rfl rfl BR1.out rfl rfl infoJar (by simp [Value.oneCell']) (fun u _ hu => ⟨hH2.1.grown hu (by simp; omega), hH2.2.grown hu (by simp; omega)⟩) (fun w3 E3 G3 => ?_); rw [List.append_nil, List.nil_append] at E3; try simp only [qp, qn]
      have hH3 : Blk w3 p_ 51 #[.int .i64 (x0 : Int), .int .i64 (x1 : Int), .int .i64 4, .int .i64 (x3 : Int), .int .i64 x4, .int .i64 x5, .int .u32 (x6 : Int), .int .u32 (x7 : Int), .int .u32 (x8 : Int), .int .u64 (x9 : Int), .int .u64 (x10 : Int), .int .u64 (x11 : Int), .int .u64 (x12 : Int), .slice (some ⟨b1, o1, none⟩) 1 c1, .slice A2 k c2, .bool true] ∧ Blk w3 j_ 36 #[.slice U 32 cu, .slice D 32 cd, .slice AC nC cC, .slice AZ0 nL0 cL0, .int .i64 (net : Int), .int .i64 (sent : Int)] := ⟨hH2.1.grown G3 (by simp; omega), hH2.2.grown G3 (by simp; omega)⟩; have hJO := hJO.keptLow BR1.out rfl G3 hr1; have BR2 := qq (BR2.out.grown G3 (by simp; omega)); have RW := qq (RW.out.grown G3 RW.out.size (fun k hk => by cases hk; exact wr1)); refine take_store_part2 (j := 5) rfl rfl (by kernel_rfl) rfl 51 _ _ rfl r2_ 0 51 [] [.int .i64 0, .int .i64 0, .int .i64 0, .int .i64 0, .int .i64 0, .int .i64 0, .int .u32 0, .int .u32 0, .int .u32 0, .int .u64 0, .int .u64 0, .int .u64 0, .int .u64 0, .slice none 0 0, .slice none 0 0, .bool false] [] [.int .i64 (x0 : Int), .int .i64 (x1 : Int), .int .i64 4, .int .i64 (x3 : Int), .int .i64 x4, .int .i64 x5, .int .u32 (x6 : Int), .int .u32 (x7 : Int), .int .u32 (x8 : Int), .int .u64 (x9 : Int), .int .u64 (x10 : Int), .int .u64 (x11 : Int), .int .u64 (x12 : Int), .slice (some ⟨b1, o1, none⟩) 1 c1, .slice A2 k c2, .bool true] rfl rfl BR2.out rfl rfl infoPk (by simp [Value.oneCell']) (fun u _ hu => ⟨hH3.1.grown hu (by simp; omega), hH3.2.grown hu (by simp; omega)⟩) (fun w4 E4 G4 => ?_); rw [List.append_nil, List.nil_append] at E4; try simp only [qp, qn]
      refine take_do (j := 6) (d := some 8) (v := .int .i64 0) (w2 := w4) rfl rfl (by kernel_rfl) rfl (Or.inl (by go_simp; try with_reducible rfl)) ⟨hH3.1.grown G4 (by simp; omega), hH3.2.grown G4 (by simp; omega)⟩ ?_; try simp only [qp, qn]
      refine wpAnyH_done (by kernel_rfl) ?_ _; clear hPQ
      go_wp2_with fail
      try rw [Exit.noGoto_ret]
      refine bodyPost_ret (results_cct rfl _ _ r1_ r2_ _ _ _ _ _ _ _ rfl rfl rfl (E3.grown G4 (by simp; omega)) E4 Tryz.underlying36 rfl infoJar Tryz.underlying51 rfl infoPk) rfl ⟨.inl ⟨HQ.out, _, _, _, _, _, _, rfl, (hJO.keptLow BR2.out rfl G4 hr2).jar⟩, RW.out.grown G4 RW.out.size (fun k hk => by cases hk; exact wr2)⟩
 · have HQ := qq hq; rw [decide_eq_false hq]; refine qv (i := 14) (d := some 63) (v := .bool true) rfl rfl (by kernel_rfl) hPQ (fun u hu => ?_) hHeld ?_
   · go_simp; try with_reducible rfl
   try simp only [qp, qn]
   refine qv (i := 15) (d := some 64) (v := .bool true) rfl rfl (by kernel_rfl) hPQ (fun u hu => ?_) hHeld ?_
   · go_simp; try with_reducible rfl
   try simp only [qp, qn]
   refine wpAnyH_done (by kernel_rfl) ?_ _; clear hPQ hHeld hq
   go_wp2_with (first
    | (refine wpList_store_part rfl 36 _ _ rfl r1_ 0 36 [] [.slice none 0 0, .slice none 0 0, .slice none 0 0, .slice none 0 0, .int .i64 0, .int .i64 0] [] [.slice none 0 0, .slice none 0 0, .slice none 0 0, .slice none 0 0, .int .i64 0, .int .i64 0] rfl rfl BR1.out rfl rfl infoJar (by simp [Value.oneCell']) ?_; intro w8 D8 G8; rw [List.append_nil, List.nil_append] at D8; have BR2b := BR2.out.grown G8 (by simp; omega); have RWb := RW.out.grown G8 RW.out.size (fun k hk => by cases hk; exact wr1))
    | (refine wpList_store_part rfl 51 _ _ rfl r2_ 0 51 [] [.int .i64 0, .int .i64 0, .int .i64 0, .int .i64 0, .int .i64 0, .int .i64 0, .int .u32 0, .int .u32 0, .int .u32 0, .int .u64 0, .int .u64 0, .int .u64 0, .int .u64 0, .slice none 0 0, .slice none 0 0, .bool false] [] [.int .i64 0, .int .i64 0, .int .i64 0, .int .i64 0, .int .i64 0, .int .i64 0, .int .u32 0, .int .u32 0, .int .u32 0, .int .u64 0, .int .u64 0, .int .u64 0, .int .u64 0, .slice none 0 0, .slice none 0 0, .bool false] rfl rfl BR2b rfl rfl infoPk (by simp [Value.oneCell']) ?_; intro w9 D9 G9; rw [List.append_nil, List.nil_append] at D9))
   try rw [Exit.noGoto_ret]
   refine bodyPost_ret (results_cct rfl _ _ r1_ r2_ _ _ _ _ _ _ _ rfl rfl rfl (D8.grown G9 (by simp; omega)) D9 Tryz.underlying36 rfl infoJar Tryz.underlying51 rfl infoPk) rfl ⟨.inr ⟨HQ.out, rfl⟩, RWb.grown G9 RWb.size (fun k hk => by cases hk; exact wr2)⟩
def ringL (id : Nat) : Nat -> List (Int × List UInt8)
 | 0 => [((id : Int), startK (wbytesL id 32))]
 | t + 1 => ((((id + t + 1 : Nat)) : Int), nextK (fldD (ringL id t) 0)) :: ringL id t
theorem ringL_len (id : Nat) : ∀ t, (ringL id t).length = t + 1
 | 0 => rfl
 | t + 1 => by unfold ringL; rw [List.length_cons, ringL_len id t]
theorem fldT_cons (f : Int × List UInt8) (l : List (Int × List UInt8)) (i : Nat) : fldT (f :: l) (i + 1) = fldT l i := rfl
theorem fldD_cons (f : Int × List UInt8) (l : List (Int × List UInt8)) (i : Nat) : fldD (f :: l) (i + 1) = fldD l i := rfl
theorem ringL_T (id : Nat) : ∀ t i, i <= t -> fldT (ringL id t) i = ((id + (t - i) : Nat) : Int)
 | 0, i, h => by obtain rfl : i = 0 := by omega
                 rfl
 | t + 1, 0, _ => rfl
 | t + 1, i + 1, h => by
  unfold ringL; rw [fldT_cons, ringL_T id t i (by omega)]
  congr 1
  omega
theorem ringL_D (id : Nat) : ∀ t i, i <= t -> (fldD (ringL id t) i).length = 32
 | 0, i, h => by obtain rfl : i = 0 := by omega
                 exact expandL_length _ _ _
 | t + 1, 0, _ => expandL_length _ _ _
 | t + 1, i + 1, h => by
  unfold ringL; rw [fldD_cons]; exact ringL_D id t i (by omega)
theorem ringL_good (id t : Nat) (ht : t <= 3) (hid : id <= 1000000) : RingG (ringL id t) := by
 refine ⟨by rw [ringL_len]; omega, by rw [ringL_len]; omega, fun i hi => ?_, fun i j hij hj => ?_⟩
 · rw [ringL_len] at hi; rw [ringL_T id t i (by omega)]; exact ⟨by omega, by omega, ringL_D id t i (by omega)⟩
 · rw [ringL_len] at hj; rw [ringL_T id t i (by omega), ringL_T id t j (by omega)]; omega
theorem ringL_cons (id t : Nat) : ∃ rest, ringL id t = (((id + t : Nat) : Int), fldD (ringL id t) 0) :: rest := by
 cases t with
 | zero => exact ⟨[], rfl⟩
 | succ t => exact ⟨ringL id t, rfl⟩
def noInt (cs : List Value) : Bool := cs.all fun v => match v with | .int .i64 _ => false | _ => true
theorem FldL.keptS {w w' : World} {A : Option Addr} {n c g : Nat} {T : TypeId} {cs : Array Value} {fs : List (Int × List UInt8)} (h : FldL w A n c fs) (hn : 0 < n) (hB : Blk w g T cs) (h1 : noByte cs.toList = true) (h2 : noInt cs.toList = true) (hg : w.grownBy w' (some g)) : FldL w' A n c fs := by
 obtain ⟨b, off, A', n', c', rfl, hc0, _, _⟩ := h.at_ hn; have hbg : b ≠ g := by
  intro e; subst e; rw [hB.cell, <- Array.getElem?_toList] at hc0; have := List.all_eq_true.1 h2 _ (List.mem_of_getElem? hc0)
  cases this
 have hlt := World.block_lt_of_cell? w _ hc0; have hbl := hg.block b hlt (fun e => hbg (Option.some.inj e)); obtain ⟨vs, hr, hl, hf⟩ := h; refine ⟨vs, ⟨hr.1, hr.2.1, hr.2.2.1, fun i u hu => ?_⟩, hl, fun i f hfi => ?_⟩
 · obtain ⟨b', off', e, hc⟩ := hr.2.2.2 i u hu
   cases e
   exact ⟨b, off, rfl, (World.cell?_of_block (a := ⟨b, off + i, none⟩) hbl).trans hc⟩
 · obtain ⟨A2, n2, c2, e1, e2, e3⟩ := hf i f hfi; exact ⟨A2, n2, c2, e1, e2, e3.kept hg (off_block e3 hB h1)⟩
theorem ring_any (id t : Nat) (hid : id <= 3998) (ht : t <= 2) (w : World) : Calls Tryz.prog 6 #[.int .i64 id, .int .i64 t] w fun e w' => ∃ u, e = .returned u ∧ RingV w' u (ringL id t) ∧ Below w.heap.size w w' := by
 have HID := qq hid; have HT := qq ht; have wi : (id : Int) % 4294967296 = (id : Int) := by omega
 have wt : (t : Int) % 6 = (t : Int) := by omega
 clear hid ht
 go_enter Tryz.func6, Tryz.ntmps6
 go_upto_region 1 with fail
 obtain ⟨y1, r_, ey1, er_⟩ : ∃ y1 r_, y1 = w.alloc (.cells #[.slice none 0 0] 25) ∧ r_ = w.heap.size := ⟨_, _, rfl, rfl⟩; rw [<- ey1, <- er_]; have hb1 : Below w.heap.size w y1 := by rw [ey1]; exact below_alloc1 _ _
 have BR := qq (show Blk y1 r_ 25 #[.slice none 0 0] by rw [ey1, er_]; exact blk_new1_0 _ _ _); have wr_ : w.heap.size <= r_ := by omega
 have RW := qq hb1; clear hb1 ey1 er_
 go_wp2_with fail
 refine (within_any (id : Int) 4294967296 (by decide) (by decide) _).mono ?_; rintro e y2 ⟨rfl, rfl⟩; rw [wi]
 go_wp2_with fail
 refine (key_any id _ (by have := HID.out; omega)).mono ?_; rintro e y3 ⟨A1, c1, rfl, h1, hb⟩; have H1 := qq h1; have BR := qs BR hb; have RW := qt RW hb; clear h1 hb
 go_wp2_with fail
 refine (start19_any id (by have := HID.out; omega) A1 c1 _ _ H1.out).mono ?_; rintro e y4 ⟨u, rfl, ⟨A, n, c, rfl, hF⟩, hb⟩; have HF := qq (show FldL y4 A n c (ringL id 0) from hF); have BR := qs BR hb; have RW := qt RW hb; have rl := BR.out.lt; clear hF hb H1
 go_upto_region 2 with (refine wpList_store_part rfl 25 _ _ rfl y4.heap.size 0 25 [] [.slice none 0 0] [] [.slice A n c] rfl rfl (Blk.new _ _ _) rfl rfl infoRing (by simp [Value.oneCell']) ?_; intro y5 D5 G5; rw [List.append_nil, List.nil_append] at D5)
 have hb := below_new_store G5; obtain ⟨a_, ea⟩ : ∃ a_, a_ = y4.heap.size := ⟨_, rfl⟩; rw [<- ea] at D5 rl ⊢; have BA := qq D5; have BR := qs BR hb; have HF := qs HF hb; have wa : w.heap.size <= a_ := by omega
 have RW := qt RW hb; clear D5 G5 hb ea
 go_upto_region 3 with fail
 go_loopw [7] (fun sv wr => ∃ (k : Nat) (A : Option Addr) (n c : Nat), sv = .int .i64 k ∧ Hid (k <= t) ∧ Hid (Blk wr r_ 25 #[.slice none 0 0]) ∧ Hid (Blk wr a_ 25 #[.slice A n c]) ∧ Hid (FldL wr A n c (ringL id k)) ∧ Below w.heap.size w wr) (fun sv _ => match sv with | .int _ k => (t - k).toNat | _ => 0)
 case atStart => exact ⟨0, A, n, c, rfl, Nat.zero_le _, BR.out, BA.out, HF.out, RW.out⟩
 case round =>
  clear BR BA HF RW; obtain ⟨k, A, n, c, rfl, HKt, BR, BA, HF, hb⟩ := hrel; have RW := qq hb; clear hb
  by_cases hk : k < t
  · have hkI : (k : Int) < (t : Int) := by omega
    go_wp2_with fail
    refine (within_any (t : Int) 6 (by decide) (by decide) _).mono ?_; rintro e y2 ⟨rfl, rfl⟩; rw [wt]; obtain ⟨rest, hrest⟩ := ringL_cons id k; have ROT := qq (fun W hW => rotate19_any (.agg #[.slice A n c]) (ringL id k) (id + k) _ rest hrest (by have := HID.out; have := HT.out; omega) (by rw [ringL_len]; have := HT.out; omega) (ringL_good id k (by have := HT.out; omega) (by have := HID.out; omega)) (fun i hi => by rw [ringL_len] at hi; rw [ringL_T id k i (by omega)]; omega) W hW); clear hrest
    go_wp2_with (refine wpList_load_part rfl 25 _ rfl a_ 0 25 [] [.slice A n c] [] _ rfl BA.out rfl Tryz.underlying25 rfl infoRing ?_)
    refine (ROT.out _ ⟨A, n, c, rfl, HF.out⟩).mono ?_; rintro e y3 ⟨u, rfl, ⟨A2, n2, c2, rfl, hF2⟩, hb⟩; have BR := qs BR hb; have BA := qs BA hb; have RW := qt RW hb; have HF2 := qq (show FldL y3 A2 n2 c2 (ringL id (k + 1)) from hF2); clear hb hF2 ROT HF
    go_upto_region 4 with (refine wpList_store_part rfl 25 _ _ rfl a_ 0 25 [] [.slice A n c] [] [.slice A2 n2 c2] rfl rfl BA.out rfl rfl infoRing (by simp [Value.oneCell']) ?_; intro y5 D5 G5; rw [List.append_nil, List.nil_append] at D5)
    have hn2 : 0 < n2 := by have := HF2.out.len; rw [ringL_len] at this; omega
    have HF5 := qq (HF2.out.keptS hn2 BA.out rfl rfl G5); have BR := qq (BR.out.grown G5 (by intro e; injection e with e; omega)); have RW := qq (RW.out.grown G5 RW.out.size (fun k hk => by cases hk; exact wa)); have BA := qq D5; clear D5 G5 HF2; go_wp2
    go_roundw
    case rel => exact ⟨k + 1, A2, n2, c2, by simp, qq (by omega), BR.out, BA.out, HF5.out, RW.out⟩
    case measure => simp; omega
  · have ek : k = t := Nat.le_antisymm (show k <= t from HKt.out) (Nat.le_of_not_lt hk); subst ek
    go_wp2_with fail
    refine (within_any (k : Int) 6 (by decide) (by decide) _).mono ?_; rintro e y2 ⟨rfl, rfl⟩; rw [wt]
    go_wp2_with (first | (refine wpList_load_part rfl 25 _ rfl a_ 0 25 [] [.slice A n c] [] _ rfl BA.out rfl Tryz.underlying25 rfl infoRing ?_) | (refine wpList_store_part rfl 25 _ _ rfl r_ 0 25 [] [.slice none 0 0] [] [.slice A n c] rfl rfl BR.out rfl rfl infoRing (by simp [Value.oneCell']) ?_; intro y8 D8 G8; rw [List.append_nil, List.nil_append] at D8))
    have hn2 : 0 < n := by have := HF.out.len; rw [ringL_len] at this; omega
    refine bodyPost_ret (results_whole rfl _ _ r_ _ _ _ rfl D8 Tryz.underlying25 rfl infoRing) rfl ⟨_, rfl, ⟨A, n, c, rfl, HF.out.keptS hn2 BR.out rfl rfl G8⟩, RW.out.grown G8 RW.out.size (fun k hk => by cases hk; exact wr_)⟩
theorem Chan.keptB {w w' : World} {v : Value} {cl : Bool} {s : List UInt8} {a b : Int} {g : Nat} {T : TypeId} {cs : Array Value} (h : Chan w v cl s a b) (hB : Blk w g T cs) (hc : noByte cs.toList = true) (hg : w.grownBy w' (some g)) : Chan w' v cl s a b := by
 obtain ⟨A1, c1, A2, c2, A3, c3, e, h1, h2, h3⟩ := h; exact ⟨A1, c1, A2, c2, A3, c3, e, h1.kept hg (off_block h1 hB hc), h2.kept hg (off_block h2 hB hc), h3.kept hg (off_block h3 hB hc)⟩
theorem ints2 (w : World) : IntsL ((w.alloc (.cells #[.int .i64 0] 3)).alloc (.cells #[.int .i64 15] 3)) (some ⟨w.heap.size, 0, none⟩) 1 1 [0] ∧ IntsL ((w.alloc (.cells #[.int .i64 0] 3)).alloc (.cells #[.int .i64 15] 3)) (some ⟨w.heap.size + 1, 0, none⟩) 1 1 [15] := by
 have h1 := intsNew w 3 [0] (by simp [maxLen]); have h2 := intsNew (w.alloc (.cells #[.int .i64 0] 3)) 3 [15] (by simp [maxLen]); rw [World.size_alloc] at h2; exact ⟨IntsL.stays h1 (below_alloc1 _ _), h2⟩
def nz (z : Nat) : Nat -> Nat
 | 0 => z + 2000000
 | 1 => z + 4000000
 | _ => z
def nonL (z n : Nat) : List (List UInt8) := (List.range n).map fun k => wbytesL (nz z k) 16
theorem nonL_succ (z n : Nat) : nonL z (n + 1) = nonL z n ++ [wbytesL (nz z n) 16] := by
 unfold nonL; rw [List.range_succ, List.map_append]; rfl
theorem wb_add (z c n : Nat) (ci : Int) (hc : (c : Int) = ci) (hz : z <= 1000000) (h9 : c <= 9000000) (hn : n <= 1000) (w : World) : Calls Tryz.prog 9 #[.int .i64 ((z : Int) + ci), .int .i64 n] w fun e w' => ∃ A' c', e = .returned (.slice A' n c') ∧ Bytes w' A' n c' (wbytesL (z + c) n) ∧ Fresh w.heap.size A' ∧ Below w.heap.size w w' := by
 have h := wbytes_new (z + c) n w (by omega) (by omega) (by omega); rw [Int.natCast_add, hc] at h; exact h
theorem nonL_length (z n : Nat) : (nonL z n).length = n := by simp [nonL]
theorem agree_any (z nn : Nat) (hz : z <= 1000) (hn1 : 1 <= nn) (hn8 : nn <= 2) (rg : Value) (ks : List (Int × List UInt8)) (kid : Nat) (key : List UInt8) (rest : List (Int × List UInt8)) (w : World) (hr : RingV w rg ks) (hg : RingG ks) (he : ks = ((kid : Int), key) :: rest)
    (hsz : ((rspR 0 (cooR kid key (keyP (endS z) 0 15 0) (keyP (endS z) 0 15 1) (nonL z nn))).flatMap encR).length <= 16000) (hty : ∀ i, i < (rspR 0 (cooR kid key (keyP (endS z) 0 15 0) (keyP (endS z) 0 15 1) (nonL z nn))).length -> ∃ t : Nat, recT (rspR 0 (cooR kid key (keyP (endS z) 0 15 0) (keyP (endS z) 0 15 1) (nonL z nn))) i = (t : Int) ∧ t < 8)
    (heq : rspR 0 (cooR kid key (keyP (endS z) 0 15 0) (keyP (endS z) 0 15 1) (nonL z nn)) = resR 0 ((nonL z nn).map fun x => cookB kid key x 15 (keyP (endS z) 0 15 0) (keyP (endS z) 0 15 1))) (h104 : ∀ x ∈ (nonL z nn).map fun x => cookB kid key x 15 (keyP (endS z) 0 15 0) (keyP (endS z) 0 15 1), x.length = 104) (h16 : ∀ x ∈ nonL z nn, x.length = 16) :
    Calls Tryz.prog 7 #[.int .i64 z, .int .i64 nn, rg] w fun e w' => ∃ K1 K2 A3 c3, e = .returned (.tuple #[.agg #[.int .i64 0, .int .i64 15, .slice K1 32 32, .slice K2 32 32, .slice A3 nn c3, .string ⟨#[]⟩, .int .i64 0], .bool true]) ∧ Bytes w' K1 32 32 (keyP (endS z) 0 15 0) ∧ Bytes w' K2 32 32 (keyP (endS z) 0 15 1) ∧ Lists w' A3 nn c3 ((nonL z nn).map fun x => cookB kid key x 15 (keyP (endS z) 0 15 0) (keyP (endS z) 0 15 1)) ∧ Below w.heap.size w w' := by
 obtain ⟨i0, hi, hz0, hz1, hz2⟩ := info_parts infoBytesA; have hr' := hr; obtain ⟨AR, nR, cR, rfl, _⟩ := hr'; obtain ⟨S, hS⟩ : ∃ S, endS z = S := ⟨_, rfl⟩; rw [hS] at hsz hty heq h104 ⊢; have HR0 := qq hr; have HG := qq hg; have HE := qq he; have HSZ := qq hsz; have HTY := qq hty; have HEQ := qq heq; have H104 := qq h104; have H16 := qq h16; have HES := qq hS; clear hr hg he hsz hty heq h104 h16 hS
 go_enter Tryz.func7, Tryz.ntmps7
 go_upto_region 1 with fail
 obtain ⟨wz, g_, r_, ewz, eg_, er_⟩ : ∃ wz g_ r_, wz = (w.alloc (.cells #[.slice AR nR cR] 25)).alloc (.cells #[.int .i64 0, .int .i64 0, .slice none 0 0, .slice none 0 0, .slice none 0 0, .string ⟨#[]⟩, .int .i64 0] 32) ∧ g_ = w.heap.size ∧ r_ = w.heap.size + 1 := ⟨_, _, _, rfl, rfl, rfl⟩; have hb : Below w.heap.size w wz := by rw [ewz]; exact below_alloc2 _ _ _
 have BG := qq (show Blk wz g_ 25 #[.slice AR nR cR] by rw [ewz, eg_]; exact blk_new2_0 _ _ _ _ _); have BR := qq (show Blk wz r_ 32 #[.int .i64 0, .int .i64 0, .slice none 0 0, .slice none 0 0, .slice none 0 0, .string ⟨#[]⟩, .int .i64 0] by rw [ewz, er_]; exact blk_new2_1 _ _ _ _ _); have wr_ : w.heap.size <= r_ := by omega
 have gr : g_ < r_ := by omega
 rw [<- ewz, <- er_, <- eg_]; have RW := qq hb; clear hb ewz eg_ er_
 go_wp2_with fail
 refine (ends_any z (by omega) _).mono ?_; rintro e y1 ⟨u, v, rfl, hA, hB, hb⟩; rw [HES.out] at hA hB; have BG := qs BG hb; have BR := qs BR hb; have RW := qt RW hb; have hv' := hA; obtain ⟨X1a, x1a, X2a, x2a, X3a, x3a, rfl, _, _, _⟩ := hv'; have hv' := hB; obtain ⟨X1b, x1b, X2b, x2b, X3b, x3b, rfl, _, _, _⟩ := hv'; have HCA := qq hA; have HCB := qq hB; clear hb hA hB
 go_upto_region 2 with (first
  | (refine wpList_store_part rfl 60 _ _ rfl y1.heap.size 0 60 [] [.bool false, .slice none 0 0, .slice none 0 0, .slice none 0 0, .int .i64 0, .int .i64 0] [] [.bool true, .slice X1a 32 x1a, .slice X2a 32 x2a, .slice X3a 32 x3a, .int .i64 0, .int .i64 0] rfl rfl (blk_new2_0 _ _ _ _ _) rfl rfl infoCh (by simp [Value.oneCell']) ?_; intro y2 D2 G2; rw [List.append_nil, List.nil_append] at D2; have E2 := (blk_new2_1 y1 #[.bool false, .slice none 0 0, .slice none 0 0, .slice none 0 0, .int .i64 0, .int .i64 0] 60 #[.bool false, .slice none 0 0, .slice none 0 0, .slice none 0 0, .int .i64 0, .int .i64 0] 60).grown G2 (by simp))
  | (refine wpList_store_part rfl 60 _ _ rfl (y1.heap.size + 1) 0 60 [] [.bool false, .slice none 0 0, .slice none 0 0, .slice none 0 0, .int .i64 0, .int .i64 0] [] [.bool false, .slice X1b 32 x1b, .slice X2b 32 x2b, .slice X3b 32 x3b, .int .i64 0, .int .i64 0] rfl rfl E2 rfl rfl infoCh (by simp [Value.oneCell']) ?_; intro y3 D3 G3; rw [List.append_nil, List.nil_append] at D3))
 obtain ⟨a_, b_, ea_, eb_⟩ : ∃ a_ b_, a_ = y1.heap.size ∧ b_ = y1.heap.size + 1 := ⟨_, _, rfl, rfl⟩; rw [<- eb_] at D3 G3 ⊢; rw [<- ea_] at D2 G2 ⊢; have ab : a_ ≠ b_ := by omega
 have wa : w.heap.size <= a_ := by rw [ea_]; exact RW.out.size
 have wb : w.heap.size <= b_ := by rw [eb_]; have := RW.out.size; omega
 have hx : Below y1.heap.size y1 y3 := by
  have h1 := below_alloc2 y1 (.cells #[.bool false, .slice none 0 0, .slice none 0 0, .slice none 0 0, .int .i64 0, .int .i64 0] 60) (.cells #[.bool false, .slice none 0 0, .slice none 0 0, .slice none 0 0, .int .i64 0, .int .i64 0] 60); have h2 := h1.grown G2 h1.size (fun k hk => by cases hk; omega); exact h2.grown G3 h2.size (fun k hk => by cases hk; omega)
 have ra : r_ < a_ := by rw [ea_]; exact BR.out.lt
 have BA := qq (D2.grown G3 (by simp; omega)); have BB := qq D3; have BG := qs BG hx; have BR := qs BR hx; have HCA := qs HCA hx; have HCB := qs HCB hx; have RW := qt RW hx; have rb : r_ < b_ := by omega
 clear hx D2 G2 E2 D3 G3 ea_ eb_; go_wp2
 go_loopw [10, 11] (fun t i wr => ∃ (k co : Nat) (AO : Option Addr), k <= nn ∧ i = .int .i64 k ∧ t = .slice AO k co ∧ Hid (OwnItems 1 encB _root_.id 27 wr y3.heap.size AO k co (nonL z k)) ∧ Below y3.heap.size y3 wr) (fun _ i _ => nn - (intOf i).toNat)
 case atStart => exact ⟨0, 0, none, Nat.zero_le _, rfl, rfl, OwnItems.nil _ _, Below.refl _ _⟩
 case round =>
  obtain ⟨k, co, AO, hk, rfl, rfl, HOW, hbr⟩ := hrel; have HBR := qq hbr
  by_cases hkn : k < nn
  · have hki : (k : Int) < (nn : Int) := by omega
    rcases (by omega : k = 0 ∨ k = 1) with rfl | rfl
    · have w3 : IntKind.i64.wrap ((z : Int) + 2000000) = (z : Int) + 2000000 := IntWalk.i64_in _ (by omega); have HWB := qq (wb_add z 2000000 16 2000000 rfl (by omega) (by decide) (by decide) wr); clear hbr
      go_wp2_with fail
      refine HWB.out.mono ?_; rintro e y4 ⟨A6, c6, rfl, hB6, hF6, hb⟩; have HF := qq hF6; have HOLT : Hid (∀ j, (Value.slice AO 0 co).ownBlock = some j -> j < wr.heap.size) := HOW.out.lt; have hx := hb.trans ((below_alloc1 y4 (.cells #[.slice A6 16 c6] 27)).mono hb.size); have HOX := qs HOW hx; have HBX := qt HBR hx; have HYX := qq (hB6.stays (below_alloc1 y4 (.cells #[.slice A6 16 c6] 27))); have hbz := HBX.out.size; have hk9 := HOX.out.cap; clear hb hB6 hF6 hx w3 HWB
      go_wp2_with (at_builtin; refine append_items_at rfl _ _ 30 rfl i0 _ 24 Tryz.underlying30 hi hz0 hz1 hz2 rfl (by decide) rfl HOX.out rfl (wbytesL (nz z 0) 16) rfl (rd_one _ _ _) (by simp [encB, Value.oneCell']) HYX.out (Off.fresh HF.out HOLT.out) (by decide) (by decide) hbz ?_; intro A8 c8 w8 hown8 hg8 hl8; have HG8 := qq hg8; have HO8 := qq hown8; clear hg8 hl8 hown8)
      have R8 := qq (HBX.out.grown HG8.out HBX.out.size HOX.out.old); have HO8 : Hid (OwnItems 1 encB _root_.id 27 w8 y3.heap.size A8 1 c8 (nonL z 1)) := by rw [Hid, nonL_succ]; exact HO8.out
      clear HG8 hbz; go_wp2
      go_roundw
      case rel => exact ⟨1, c8, A8, by omega, by go_num, rfl, HO8.out, R8.out⟩
      case measure => simp [intOf]; omega
    · have HKN := qq hkn; have hki2 : (1 : Int) < (nn : Int) := by omega
      clear hkn hki hk hn1 hn8; have w3 : IntKind.i64.wrap ((z : Int) + 4000000) = (z : Int) + 4000000 := IntWalk.i64_in _ (by omega); have HWB := qq (wb_add z 4000000 16 4000000 rfl (by omega) (by decide) (by decide) wr); clear hbr
      go_wp2_with fail
      refine HWB.out.mono ?_; rintro e y4 ⟨A6, c6, rfl, hB6, hF6, hb⟩; have HF := qq hF6; have HOLT : Hid (∀ j, (Value.slice AO 1 co).ownBlock = some j -> j < wr.heap.size) := HOW.out.lt; have hx := hb.trans ((below_alloc1 y4 (.cells #[.slice A6 16 c6] 27)).mono hb.size); have HOX := qs HOW hx; have HBX := qt HBR hx; have HYX := qq (hB6.stays (below_alloc1 y4 (.cells #[.slice A6 16 c6] 27))); have hbz := HBX.out.size; have hk9 := HOX.out.cap; clear hb hB6 hF6 hx w3 HWB
      go_wp2_with (at_builtin; refine append_items_at rfl _ _ 30 rfl i0 _ 24 Tryz.underlying30 hi hz0 hz1 hz2 rfl (by decide) rfl HOX.out rfl (wbytesL (nz z 1) 16) rfl (rd_one _ _ _) (by simp [encB, Value.oneCell']) HYX.out (Off.fresh HF.out HOLT.out) (by decide) (by decide) hbz ?_; intro A8 c8 w8 hown8 hg8 hl8; have HG8 := qq hg8; have HO8 := qq hown8; clear hg8 hl8 hown8)
      have R8 := qq (HBX.out.grown HG8.out HBX.out.size HOX.out.old); have HO8 : Hid (OwnItems 1 encB _root_.id 27 w8 y3.heap.size A8 2 c8 (nonL z 2)) := by rw [Hid, nonL_succ]; exact HO8.out
      clear HG8 hbz; go_wp2
      go_roundw
      case rel => exact ⟨2, c8, A8, HKN.out, by go_num, rfl, HO8.out, R8.out⟩
      case measure => have h1 := HKN.out; simp [intOf]; omega
  · have hk9 : nn = k := by omega
    clear hkn hk; subst hk9; obtain ⟨ws, hws⟩ : ∃ ws, ws = wr := ⟨_, rfl⟩; subst hws; have hOW := HOW.out; have HOW9 := qq hOW; have BG := qs BG hbr; have BR := qs BR hbr; have BA := qs BA hbr; have BB := qs BB hbr; have HCA := qs HCA hbr; have HCB := qs HCB hbr; have RW := qt RW hbr; have HOW := qq HOW9.out; clear hbr hOW HOW9
    go_wp2_with fail
    have HI2 := ints2 ws; refine (request_any _ _ 1 1 0 15 _ HI2.1 HI2.2 (by decide) (by decide)).mono ?_; rintro e v1 ⟨AQ, nQ, cQ, rfl, hQ, hb⟩; have hb := (below_alloc2 ws _ _).trans (hb.mono (below_alloc2 ws _ _).size); have hnQ : nQ = 16 := by rw [<- hQ.len, reqB_length]
    subst hnQ; have BG := qs BG hb; have BR := qs BR hb; have BA := qs BA hb; have BB := qs BB hb; have HCA := qs HCA hb; have HCB := qs HCB hb; have HOW := qs HOW hb; have RW := qt RW hb; have HQ := qq hQ; clear hb hQ HI2
    go_wp2_with (refine wpList_load_part rfl 60 _ rfl a_ 0 60 [] [.bool true, .slice X1a 32 x1a, .slice X2a 32 x2a, .slice X3a 32 x3a, .int .i64 0, .int .i64 0] [] _ rfl BA.out rfl Tryz.underlying60 rfl infoCh ?_)
    refine (send_any _ true S 0 0 (by decide) (by decide) _ _ _ _ _ HCA.out HQ.out (by decide)).mono ?_; rintro e v2 ⟨uc, Ac, dc, rfl, hC, hBc, hb⟩; have BG := qs BG hb; have BR := qs BR hb; have BA := qs BA hb; have BB := qs BB hb; have HCB := qs HCB hb; have HOW := qs HOW hb; have RW := qt RW hb; have hv' := hC; obtain ⟨X1c, x1c, X2c, x2c, X3c, x3c, rfl, _, _, _⟩ := hv'; have HCA := qq hC; have HBc := qq hBc; clear hb hC hBc
    go_upto_region 9 with (refine wpList_store_part rfl 60 _ _ rfl a_ 0 60 [] [.bool true, .slice X1a 32 x1a, .slice X2a 32 x2a, .slice X3a 32 x3a, .int .i64 0, .int .i64 0] [] [.bool true, .slice X1c 32 x1c, .slice X2c 32 x2c, .slice X3c 32 x3c, .int .i64 1, .int .i64 0] rfl rfl BA.out rfl rfl infoCh (by simp [Value.oneCell']) ?_; intro v2x D9 G9; rw [List.append_nil, List.nil_append] at D9)
    have BG := qq (BG.out.grown G9 (by simp; omega)); have BR := qq (BR.out.grown G9 (by simp; omega)); have BB := qq (BB.out.grown G9 (by simp; omega)); have HCA := qq (HCA.out.keptB BA.out rfl G9); have HCB := qq (HCB.out.keptB BA.out rfl G9); have HBc := qq (HBc.out.kept G9 (off_block HBc.out BA.out rfl)); have HOW := qq (HOW.out.keptB BA.out (by decide) rfl G9); have RW := qq (RW.out.grown G9 RW.out.size (fun k hk => by cases hk; exact wa)); have BA := qq D9; clear D9 G9
    go_wp2_with (refine wpList_load_part rfl 60 _ rfl b_ 0 60 [] [.bool false, .slice X1b 32 x1b, .slice X2b 32 x2b, .slice X3b 32 x3b, .int .i64 0, .int .i64 0] [] _ rfl BB.out rfl Tryz.underlying60 rfl infoCh ?_)
    refine (receive_any _ false S 0 0 (by decide) (by decide) _ _ _ _ _ HCB.out HBc.out (by decide)).mono ?_; rintro e v3 ⟨ud, Ad, dd, rfl, hC, hBd, hb⟩; have BG := qs BG hb; have BR := qs BR hb; have BA := qs BA hb; have BB := qs BB hb; have HCA := qs HCA hb; have HOW := qs HOW hb; have RW := qt RW hb; have hv' := hC; obtain ⟨X1d, x1d, X2d, x2d, X3d, x3d, rfl, _, _, _⟩ := hv'; have HCB := qq hC; have HBd := qq hBd; clear hb hC hBd
    go_upto_region 10 with (refine wpList_store_part rfl 60 _ _ rfl b_ 0 60 [] [.bool false, .slice X1b 32 x1b, .slice X2b 32 x2b, .slice X3b 32 x3b, .int .i64 0, .int .i64 0] [] [.bool false, .slice X1d 32 x1d, .slice X2d 32 x2d, .slice X3d 32 x3d, .int .i64 0, .int .i64 1] rfl rfl BB.out rfl rfl infoCh (by simp [Value.oneCell']) ?_; intro v3x D9 G9; rw [List.append_nil, List.nil_append] at D9)
    have BG := qq (BG.out.grown G9 (by simp; omega)); have BR := qq (BR.out.grown G9 (by simp; omega)); have BA := qq (BA.out.grown G9 (by simp; omega)); have HCA := qq (HCA.out.keptB BB.out rfl G9); have HCB := qq (HCB.out.keptB BB.out rfl G9); have HBd := qq (HBd.out.kept G9 (off_block HBd.out BB.out rfl)); have HOW := qq (HOW.out.keptB BB.out (by decide) rfl G9); have RW := qq (RW.out.grown G9 RW.out.size (fun k hk => by cases hk; exact wb)); have BB := qq D9; clear D9 G9; have HI2 := ints2 v3x; have hx2 := below_alloc2 v3x (.cells #[.int .i64 0] 3) (.cells #[.int .i64 15] 3); have BGx := qs BG hx2; have BBx := qs BB hx2; have HLN := HOW.out.lists; have HRS := qq (respond_any _ _ 1 1 0 _ ks kid key rest _ false S 0 1 (by decide) (by decide) _ 16 _ _ nn _ (nonL z nn) _ HI2.1 HI2.2 (by decide) (HR0.out.stays (RW.out.trans (hx2.mono RW.out.size))) HG.out HE.out (HCB.out.stays hx2) (HBd.out.stays hx2) (HLN.stays hx2) hn1 (by omega) (fun i hi => by rw [listAt_get (by rw [nonL_length]; exact hi)]; exact H16.out _ (List.getElem_mem _)) HTY.out (by have := HSZ.out; omega)); have HX2 := qq hx2; clear HI2 hx2 HLN
    go_wp2_with (first | (refine wpList_load_part rfl 25 _ rfl g_ 0 25 [] [.slice AR nR cR] [] _ rfl BGx.out rfl Tryz.underlying25 rfl infoRing ?_) | (refine wpList_load_part rfl 60 _ rfl b_ 0 60 [] [.bool false, .slice X1d 32 x1d, .slice X2d 32 x2d, .slice X3d 32 x3d, .int .i64 0, .int .i64 1] [] _ rfl BBx.out rfl Tryz.underlying60 rfl infoCh ?_))
    refine HRS.out.mono ?_; rintro e v4 ⟨AP, nP, cP, rfl, hP, hb⟩; have hb := HX2.out.trans (hb.mono HX2.out.size); have hnP : nP <= 16000 := by rw [<- hP.len]; exact HSZ.out
    have BG := qs BG hb; have BR := qs BR hb; have BA := qs BA hb; have BB := qs BB hb; have HCA := qs HCA hb; have HCB := qs HCB hb; have HBd := qs HBd hb; have RW := qt RW hb; have HP := qq hP; clear hb hP HRS HX2 BGx BBx
    go_wp2_with (refine wpList_load_part rfl 60 _ rfl b_ 0 60 [] [.bool false, .slice X1d 32 x1d, .slice X2d 32 x2d, .slice X3d 32 x3d, .int .i64 0, .int .i64 1] [] _ rfl BB.out rfl Tryz.underlying60 rfl infoCh ?_)
    refine (send_any _ false S 0 1 (by decide) (by decide) _ _ _ _ _ HCB.out HP.out (by omega)).mono ?_; rintro e v5 ⟨ue, Ae, de, rfl, hC, hBe, hb⟩; have BG := qs BG hb; have BR := qs BR hb; have BA := qs BA hb; have BB := qs BB hb; have HCA := qs HCA hb; have HBd := qs HBd hb; have RW := qt RW hb; have hv' := hC; obtain ⟨X1e, x1e, X2e, x2e, X3e, x3e, rfl, _, _, _⟩ := hv'; have HBe := qq hBe; clear hb hC hBe
    go_upto_region 12 with (refine wpList_store_part rfl 60 _ _ rfl b_ 0 60 [] [.bool false, .slice X1d 32 x1d, .slice X2d 32 x2d, .slice X3d 32 x3d, .int .i64 0, .int .i64 1] [] [.bool false, .slice X1e 32 x1e, .slice X2e 32 x2e, .slice X3e 32 x3e, .int .i64 1, .int .i64 1] rfl rfl BB.out rfl rfl infoCh (by simp [Value.oneCell']) ?_; intro v5x D9 G9; rw [List.append_nil, List.nil_append] at D9)
    have BG := qq (BG.out.grown G9 (by simp; omega)); have BR := qq (BR.out.grown G9 (by simp; omega)); have BA := qq (BA.out.grown G9 (by simp; omega)); have HCA := qq (HCA.out.keptB BB.out rfl G9); have HBd := qq (HBd.out.kept G9 (off_block HBd.out BB.out rfl)); have HBe := qq (HBe.out.kept G9 (off_block HBe.out BB.out rfl)); have RW := qq (RW.out.grown G9 RW.out.size (fun k hk => by cases hk; exact wb)); have BB := qq D9; clear D9 G9
    go_wp2_with (refine wpList_load_part rfl 60 _ rfl a_ 0 60 [] [.bool true, .slice X1c 32 x1c, .slice X2c 32 x2c, .slice X3c 32 x3c, .int .i64 1, .int .i64 0] [] _ rfl BA.out rfl Tryz.underlying60 rfl infoCh ?_)
    refine (receive_any _ true S 1 0 (by decide) (by decide) _ _ _ _ _ HCA.out HBe.out (by omega)).mono ?_; rintro e v6 ⟨uf, Af, df, rfl, hC, hBf, hb⟩; have BG := qs BG hb; have BR := qs BR hb; have BA := qs BA hb; have BB := qs BB hb; have HBd := qs HBd hb; have RW := qt RW hb; have hv' := hC; obtain ⟨X1f, x1f, X2f, x2f, X3f, x3f, rfl, _, _, _⟩ := hv'; have HCA := qq hC; have HBf := qq hBf; clear hb hC hBf
    go_upto_region 13 with (refine wpList_store_part rfl 60 _ _ rfl a_ 0 60 [] [.bool true, .slice X1c 32 x1c, .slice X2c 32 x2c, .slice X3c 32 x3c, .int .i64 1, .int .i64 0] [] [.bool true, .slice X1f 32 x1f, .slice X2f 32 x2f, .slice X3f 32 x3f, .int .i64 1, .int .i64 1] rfl rfl BA.out rfl rfl infoCh (by simp [Value.oneCell']) ?_; intro v6x D9 G9; rw [List.append_nil, List.nil_append] at D9)
    have BG := qq (BG.out.grown G9 (by simp; omega)); have BR := qq (BR.out.grown G9 (by simp; omega)); have BB := qq (BB.out.grown G9 (by simp; omega)); have HCA := qq (HCA.out.keptB BA.out rfl G9); have HBd := qq (HBd.out.kept G9 (off_block HBd.out BA.out rfl)); have HBf := qq (HBf.out.kept G9 (off_block HBf.out BA.out rfl)); have RW := qq (RW.out.grown G9 RW.out.size (fun k hk => by cases hk; exact wa)); have BA := qq D9; clear D9 G9; have HFN := qq (esFinish_any _ true S 1 1 (by decide) (by decide) _ 16 _ _ nP _ 0 ((nonL z nn).map fun x => cookB kid key x 15 (keyP S 0 15 0) (keyP S 0 15 1)) _ HCA.out HBd.out (by rw [<- HEQ.out]; exact HBf.out) (by omega) (by decide) (by rw [List.length_map, nonL_length]; omega) (by rw [List.length_map, nonL_length]; exact hn1) (fun i hi => by rw [listAt_get hi]; exact H104.out _ (List.getElem_mem hi)))
    go_wp2_with (refine wpList_load_part rfl 60 _ rfl a_ 0 60 [] [.bool true, .slice X1f 32 x1f, .slice X2f 32 x2f, .slice X3f 32 x3f, .int .i64 1, .int .i64 1] [] _ rfl BA.out rfl Tryz.underlying60 rfl infoCh ?_)
    refine HFN.out.mono ?_; rintro e v7 ⟨K1, K2, A3, c3, rfl, hk1, hk2, hl3, hb⟩; have BR := qs BR hb; have BB := qs BB hb; have RW := qt RW hb; have hll : ((nonL z nn).map fun x => cookB kid key x 15 (keyP S 0 15 0) (keyP S 0 15 1)).length = nn := by rw [List.length_map, nonL_length]
    rw [hll] at hl3 ⊢; have HK1 := qq hk1; have HK2 := qq hk2; have HL3 := qq hl3; clear hb hk1 hk2 hl3 hll HFN
    go_upto_region 14 with (refine wpList_store_part rfl 32 _ _ rfl v7.heap.size 0 32 [] [.int .i64 0, .int .i64 0, .slice none 0 0, .slice none 0 0, .slice none 0 0, .string ⟨#[]⟩, .int .i64 0] [] [.int .i64 0, .int .i64 15, .slice K1 32 32, .slice K2 32 32, .slice A3 nn c3, .string ⟨#[]⟩, .int .i64 0] rfl rfl (Blk.new _ _ _) rfl rfl infoTrm (by simp [Value.oneCell']) ?_; intro v8 D9 G; have G := below_new_store G; rw [List.append_nil, List.nil_append] at D9)
    obtain ⟨t_, eo⟩ : ∃ t_, t_ = v7.heap.size := ⟨_, rfl⟩; rw [<- eo] at D9 ⊢; have BT := qq D9; have rt : r_ < t_ := by rw [eo]; exact BR.out.lt
    have BR := qs BR G; have BB := qs BB G; have HK1 := qs HK1 G; have HK2 := qs HK2 G; have HL3 := qs HL3 G; have RW := qt RW G; have br : b_ ≠ r_ := by omega
    clear G D9 eo; refine take_start (S := fun u => Blk u t_ 32 #[.int .i64 0, .int .i64 15, .slice K1 32 32, .slice K2 32 32, .slice A3 nn c3, .string ⟨#[]⟩, .int .i64 0] ∧ Blk u b_ 60 #[.bool false, .slice X1e 32 x1e, .slice X2e 32 x2e, .slice X3e 32 x3e, .int .i64 1, .int .i64 1]) (by kernel_rfl) ?hPQ ⟨BT.out.stays (Below.refl _ _).drew, BB.out.stays (Below.refl _ _).drew⟩ (fun hPQ hHeld => ?restT)
    case hPQ => (repeat (with_reducible first | refine PQ.then ?_ | refine PQ.block ?_)); exact fun _ _ d _ _ h => by cases d <;> exact h
    case restT =>
    have hx : Below v8.heap.size v8 v8.drew := (Below.refl _ _).drew; obtain ⟨yd, hyd⟩ : ∃ yd, v8.drew = yd := ⟨_, rfl⟩; rw [hyd] at hHeld hx ⊢; clear hyd; have BR := qs BR hx; have HK1 := qs HK1 hx; have HK2 := qs HK2 hx; have HL3 := qs HL3 hx; have RW := qt RW hx; clear hx; refine qv (i := 0) (d := some 98) (v := .agg #[.int .i64 0, .int .i64 15, .slice K1 32 32, .slice K2 32 32, .slice A3 nn c3, .string ⟨#[]⟩, .int .i64 0]) rfl rfl (by kernel_rfl) hPQ (fun u hu => ?_) hHeld ?_
    · exact exec_load_part 32 _ rfl t_ 0 32 [] [.int .i64 0, .int .i64 15, .slice K1 32 32, .slice K2 32 32, .slice A3 nn c3, .string ⟨#[]⟩, .int .i64 0] [] _ rfl hu.1 rfl Tryz.underlying32 rfl infoTrm
    try simp only [qp, qn]
    refine qv (i := 1) (d := some 99) (v := ?_) rfl rfl (by kernel_rfl) hPQ (fun u hu => ?_) hHeld ?_
    rotate_left 1
    · have k1 := hu.1.cell 4; have k2 := hu.2.cell 4; go_simp; try with_reducible rfl
    try simp only [qp, qn]
    refine qv (i := 2) (d := some 100) (v := ?_) rfl rfl (by kernel_rfl) hPQ (fun u hu => ?_) hHeld ?_
    rotate_left 1
    · have k1 := hu.1.cell 4; have k2 := hu.2.cell 4; go_simp; try with_reducible rfl
    try simp only [qp, qn]
    refine qv (i := 3) (d := some 101) (v := ?_) rfl rfl (by kernel_rfl) hPQ (fun u hu => ?_) hHeld ?_
    rotate_left 1
    · have k1 := hu.1.cell 4; have k2 := hu.2.cell 4; go_simp; try with_reducible rfl
    try simp only [qp, qn]
    refine qv (i := 4) (d := some 102) (v := ?_) rfl rfl (by kernel_rfl) hPQ (fun u hu => ?_) hHeld ?_
    rotate_left 1
    · have k1 := hu.1.cell 4; have k2 := hu.2.cell 4; go_simp; try with_reducible rfl
    try simp only [qp, qn]
    refine qv (i := 5) (d := some 103) (v := ?_) rfl rfl (by kernel_rfl) hPQ (fun u hu => ?_) hHeld ?_
    rotate_left 1
    · have k1 := hu.1.cell 4; have k2 := hu.2.cell 4; go_simp; try with_reducible rfl
    try simp only [qp, qn]
    refine qv (i := 6) (d := some 104) (v := ?_) rfl rfl (by kernel_rfl) hPQ (fun u hu => ?_) hHeld ?_
    rotate_left 1
    · have k1 := hu.1.cell 4; have k2 := hu.2.cell 4; go_simp; try with_reducible rfl
    try simp only [qp, qn]
    refine qv (i := 7) (d := some 105) (v := ?_) rfl rfl (by kernel_rfl) hPQ (fun u hu => ?_) hHeld ?_
    rotate_left 1
    · have k1 := hu.1.cell 4; have k2 := hu.2.cell 4; go_simp; try with_reducible rfl
    try simp only [qp, qn]
    refine qv (i := 8) (d := some 106) (v := ?_) rfl rfl (by kernel_rfl) hPQ (fun u hu => ?_) hHeld ?_
    rotate_left 1
    · have k1 := hu.1.cell 4; have k2 := hu.2.cell 4; go_simp; try with_reducible rfl
    try simp only [qp, qn]
    refine qv (i := 9) (d := some 107) (v := ?_) rfl rfl (by kernel_rfl) hPQ (fun u hu => ?_) hHeld ?_
    rotate_left 1
    · have k1 := hu.1.cell 4; have k2 := hu.2.cell 4; go_simp; try with_reducible rfl
    try simp only [qp, qn]
    refine qv (i := 10) (d := some 108) (v := ?_) rfl rfl (by kernel_rfl) hPQ (fun u hu => ?_) hHeld ?_
    rotate_left 1
    · have k1 := hu.1.cell 4; have k2 := hu.2.cell 4; go_simp; try with_reducible rfl
    try simp only [qp, qn]
    refine qv (i := 11) (d := some 109) (v := ?_) rfl rfl (by kernel_rfl) hPQ (fun u hu => ?_) hHeld ?_
    rotate_left 1
    · have k1 := hu.1.cell 4; have k2 := hu.2.cell 4; go_simp; try with_reducible rfl
    try simp only [qp, qn]
    refine qv (i := 12) (d := some 110) (v := ?_) rfl rfl (by kernel_rfl) hPQ (fun u hu => ?_) hHeld ?_
    rotate_left 1
    · have k1 := hu.1.cell 4; have k2 := hu.2.cell 4; go_simp; try with_reducible rfl
    try simp only [qp, qn]
    refine qv (i := 13) (d := some 111) (v := ?_) rfl rfl (by kernel_rfl) hPQ (fun u hu => ?_) hHeld ?_
    rotate_left 1
    · have k1 := hu.1.cell 4; have k2 := hu.2.cell 4; go_simp; try with_reducible rfl
    try simp only [qp, qn]
    refine qv (i := 14) (d := some 112) (v := ?_) rfl rfl (by kernel_rfl) hPQ (fun u hu => ?_) hHeld ?_
    rotate_left 1
    · have k1 := hu.1.cell 4; have k2 := hu.2.cell 4; go_simp; try with_reducible rfl
    try simp only [qp, qn]
    refine qv (i := 15) (d := some 113) (v := ?_) rfl rfl (by kernel_rfl) hPQ (fun u hu => ?_) hHeld ?_
    rotate_left 1
    · have k1 := hu.1.cell 4; have k2 := hu.2.cell 4; go_simp; try with_reducible rfl
    try simp only [qp, qn]
    refine qv (i := 16) (d := some 114) (v := ?_) rfl rfl (by kernel_rfl) hPQ (fun u hu => ?_) hHeld ?_
    rotate_left 1
    · have k1 := hu.1.cell 4; have k2 := hu.2.cell 4; go_simp; try with_reducible rfl
    try simp only [qp, qn]
    refine qv (i := 17) (d := some 115) (v := ?_) rfl rfl (by kernel_rfl) hPQ (fun u hu => ?_) hHeld ?_
    rotate_left 1
    · have k1 := hu.1.cell 4; have k2 := hu.2.cell 4; go_simp; try with_reducible rfl
    try simp only [qp, qn]
    refine qv (i := 18) (d := some 116) (v := ?_) rfl rfl (by kernel_rfl) hPQ (fun u hu => ?_) hHeld ?_
    rotate_left 1
    · have k1 := hu.1.cell 4; have k2 := hu.2.cell 4; go_simp; try with_reducible rfl
    try simp only [qp, qn]
    refine qv (i := 19) (d := some 117) (v := ?_) rfl rfl (by kernel_rfl) hPQ (fun u hu => ?_) hHeld ?_
    rotate_left 1
    · have k1 := hu.1.cell 4; have k2 := hu.2.cell 4; go_simp; try with_reducible rfl
    try simp only [qp, qn]
    refine qv (i := 20) (d := some 118) (v := ?_) rfl rfl (by kernel_rfl) hPQ (fun u hu => ?_) hHeld ?_
    rotate_left 1
    · have k1 := hu.1.cell 4; have k2 := hu.2.cell 4; go_simp; try with_reducible rfl
    try simp only [qp, qn]
    refine qv (i := 21) (d := some 119) (v := ?_) rfl rfl (by kernel_rfl) hPQ (fun u hu => ?_) hHeld ?_
    rotate_left 1
    · have k1 := hu.1.cell 4; have k2 := hu.2.cell 4; go_simp; try with_reducible rfl
    try simp only [qp, qn]
    refine qv (i := 22) (d := some 120) (v := ?_) rfl rfl (by kernel_rfl) hPQ (fun u hu => ?_) hHeld ?_
    rotate_left 1
    · have k1 := hu.1.cell 4; have k2 := hu.2.cell 4; go_simp; try with_reducible rfl
    try simp only [qp, qn]
    refine qv (i := 23) (d := some 121) (v := ?_) rfl rfl (by kernel_rfl) hPQ (fun u hu => ?_) hHeld ?_
    rotate_left 1
    · have k1 := hu.1.cell 4; have k2 := hu.2.cell 4; go_simp; try with_reducible rfl
    try simp only [qp, qn]
    refine qv (i := 24) (d := some 122) (v := ?_) rfl rfl (by kernel_rfl) hPQ (fun u hu => ?_) hHeld ?_
    rotate_left 1
    · have k1 := hu.1.cell 4; have k2 := hu.2.cell 4; go_simp; try with_reducible rfl
    try simp only [qp, qn]
    refine qv (i := 25) (d := some 123) (v := ?_) rfl rfl (by kernel_rfl) hPQ (fun u hu => ?_) hHeld ?_
    rotate_left 1
    · have k1 := hu.1.cell 4; have k2 := hu.2.cell 4; go_simp; try with_reducible rfl
    try simp only [qp, qn]
    refine qv (i := 26) (d := some 124) (v := ?_) rfl rfl (by kernel_rfl) hPQ (fun u hu => ?_) hHeld ?_
    rotate_left 1
    · have k1 := hu.1.cell 4; have k2 := hu.2.cell 4; go_simp; try with_reducible rfl
    try simp only [qp, qn]
    refine qv (i := 27) (d := some 125) (v := ?_) rfl rfl (by kernel_rfl) hPQ (fun u hu => ?_) hHeld ?_
    rotate_left 1
    · have k1 := hu.1.cell 4; have k2 := hu.2.cell 4; go_simp; try with_reducible rfl
    try simp only [qp, qn]
    refine qv (i := 28) (d := some 126) (v := ?_) rfl rfl (by kernel_rfl) hPQ (fun u hu => ?_) hHeld ?_
    rotate_left 1
    · have k1 := hu.1.cell 4; have k2 := hu.2.cell 4; go_simp; try with_reducible rfl
    try simp only [qp, qn]
    refine qv (i := 29) (d := some 127) (v := ?_) rfl rfl (by kernel_rfl) hPQ (fun u hu => ?_) hHeld ?_
    rotate_left 1
    · have k1 := hu.1.cell 4; have k2 := hu.2.cell 4; go_simp; try with_reducible rfl
    try simp only [qp, qn]
    refine qv (i := 30) (d := some 128) (v := ?_) rfl rfl (by kernel_rfl) hPQ (fun u hu => ?_) hHeld ?_
    rotate_left 1
    · have k1 := hu.1.cell 4; have k2 := hu.2.cell 4; go_simp; try with_reducible rfl
    try simp only [qp, qn]
    refine qv (i := 31) (d := some 129) (v := ?_) rfl rfl (by kernel_rfl) hPQ (fun u hu => ?_) hHeld ?_
    rotate_left 1
    · have k1 := hu.1.cell 4; have k2 := hu.2.cell 4; go_simp; try with_reducible rfl
    try simp only [qp, qn]
    refine qv (i := 32) (d := some 130) (v := ?_) rfl rfl (by kernel_rfl) hPQ (fun u hu => ?_) hHeld ?_
    rotate_left 1
    · have k1 := hu.1.cell 4; have k2 := hu.2.cell 4; go_simp; try with_reducible rfl
    try simp only [qp, qn]
    refine qv (i := 33) (d := some 131) (v := ?_) rfl rfl (by kernel_rfl) hPQ (fun u hu => ?_) hHeld ?_
    rotate_left 1
    · have k1 := hu.1.cell 4; have k2 := hu.2.cell 4; go_simp; try with_reducible rfl
    try simp only [qp, qn]
    refine qv (i := 34) (d := some 132) (v := ?_) rfl rfl (by kernel_rfl) hPQ (fun u hu => ?_) hHeld ?_
    rotate_left 1
    · have k1 := hu.1.cell 4; have k2 := hu.2.cell 4; go_simp; try with_reducible rfl
    try simp only [qp, qn]
    refine qv (i := 35) (d := some 133) (v := ?_) rfl rfl (by kernel_rfl) hPQ (fun u hu => ?_) hHeld ?_
    rotate_left 1
    · have k1 := hu.1.cell 4; have k2 := hu.2.cell 4; go_simp; try with_reducible rfl
    try simp only [qp, qn]
    refine qv (i := 36) (d := some 134) (v := ?_) rfl rfl (by kernel_rfl) hPQ (fun u hu => ?_) hHeld ?_
    rotate_left 1
    · have k1 := hu.1.cell 4; have k2 := hu.2.cell 4; go_simp; try with_reducible rfl
    try simp only [qp, qn]
    refine qv (i := 37) (d := some 135) (v := ?_) rfl rfl (by kernel_rfl) hPQ (fun u hu => ?_) hHeld ?_
    rotate_left 1
    · have k1 := hu.1.cell 4; have k2 := hu.2.cell 4; go_simp; try with_reducible rfl
    try simp only [qp, qn]
    refine qv (i := 38) (d := some 136) (v := ?_) rfl rfl (by kernel_rfl) hPQ (fun u hu => ?_) hHeld ?_
    rotate_left 1
    · have k1 := hu.1.cell 4; have k2 := hu.2.cell 4; go_simp; try with_reducible rfl
    try simp only [qp, qn]
    refine take_store_part2 (j := 39) rfl rfl (by kernel_rfl) rfl 32 _ _ rfl r_ 0 32 [] [.int .i64 0, .int .i64 0, .slice none 0 0, .slice none 0 0, .slice none 0 0, .string ⟨#[]⟩, .int .i64 0] [] [.int .i64 0, .int .i64 15, .slice K1 32 32, .slice K2 32 32, .slice A3 nn c3, .string ⟨#[]⟩, .int .i64 0] rfl rfl BR.out rfl rfl infoTrm (by simp [Value.oneCell']) (fun u _ hu => ⟨hHeld.1.grown hu (by simp; omega), hHeld.2.grown hu (by simp; omega)⟩) (fun y9 D9 G9 => ?_); rw [List.append_nil, List.nil_append] at D9; try simp only [qp, qn]
    refine take_do (j := 40) (d := some 7) (v := .bool true) (w2 := y9) rfl rfl (by kernel_rfl) rfl (Or.inl (by go_simp; try with_reducible rfl)) ⟨hHeld.1.grown G9 (by simp; omega), hHeld.2.grown G9 (by simp; omega)⟩ ?_; try simp only [qp, qn]
    refine wpAnyH_done (by kernel_rfl) ?_ _
    go_wp2_with fail
    refine bodyPost_ret (results_whole2 rfl _ _ r_ _ _ _ _ rfl rfl D9 Tryz.underlying32 rfl infoTrm) rfl ⟨K1, K2, A3, c3, rfl, HK1.out.kept G9 (off_block HK1.out BR.out rfl), HK2.out.kept G9 (off_block HK2.out BR.out rfl), HL3.out.keptZ BR.out rfl rfl H104.out G9, RW.out.grown G9 RW.out.size (fun k hk => by cases hk; exact wr_)⟩
def grdF (up : List UInt8) (t : Nat) (fs : List (Int × List UInt8)) (nonce : List UInt8) : Int × List UInt8 := (1028, gB nonce (sealB up [(askH t).bytes ++ fs.flatMap encX, nonce] (([] : List (Int × List UInt8)).flatMap encX)))
theorem protB_ask (up : List UInt8) (t : Nat) (fs : List (Int × List UInt8)) (nonce : List UInt8) : protB up (askH t) fs [] nonce = (askH t).bytes ++ (fs ++ [grdF up t fs nonce]).flatMap encX := by
 unfold protB grdF; rw [List.flatMap_append, List.append_assoc]; simp
theorem exSz104 : exSz 104 = 108 := by decide
theorem exSz32 : exSz 32 = 36 := by decide
theorem tot_ck : ∀ cs : List (List UInt8), (∀ x ∈ cs, x.length = 104) -> totX (ckF cs) = 108 * cs.length
 | [], _ => rfl
 | c :: cs, h => by
  have ih := tot_ck cs fun x hx => h x (List.mem_cons_of_mem _ hx)
  have hc := h c List.mem_cons_self; have e : ckF (c :: cs) = (516, c) :: ckF cs := rfl; rw [e, totX, hc, exSz104, ih, List.length_cons]; omega
theorem err_ck (cs : List (List UInt8)) (h : ∀ x ∈ cs, x.length = 104) : errX (ckF cs) = 0 := by
 refine errX_all _ fun f hf => ?_
 unfold ckF at hf; obtain ⟨x, hx, rfl⟩ := List.mem_map.1 hf; refine ⟨by show (0 : Int) <= 516; decide, by show (516 : Int) <= 65535; decide, ?_⟩
 show exSz x.length <= 1232
 rw [h x hx]; decide
theorem err_id (u : List UInt8) (h : u.length = 32) : errX [(260, u)] = 0 := by
 refine errX_all _ fun f hf => ?_
 simp only [List.mem_singleton] at hf; subst hf; refine ⟨by show (0 : Int) <= 260; decide, by show (260 : Int) <= 65535; decide, ?_⟩
 show exSz u.length <= 1232
 rw [h]; decide
theorem tot_id (u : List UInt8) (h : u.length = 32) : totX [(260, u)] = 36 := by
 rw [totX, totX, h, exSz32]
theorem find_id (u : List UInt8) : findX [(260, u)] 1028 1 = [] := by kernel_rfl
theorem tot_rep : ∀ n, totX (List.replicate n (772, z104)) = 108 * n
 | 0 => rfl
 | n + 1 => by
  have hz : z104.length = 104 := by decide
  rw [List.replicate_succ, totX, tot_rep n, hz, exSz104]; omega
theorem tot_q (u c : List UInt8) (n : Nat) (hu : u.length = 32) (hc : c.length = 104) : totX (qFs u c n) = 144 + 108 * n := by
 unfold qFs; rw [totX_append, tot_rep, totX, totX, totX, hu, hc, exSz32, exSz104]
theorem err_q (u c : List UInt8) (n : Nat) (hu : u.length = 32) (hc : c.length = 104) : errX (qFs u c n) = 0 := by
 refine errX_all _ fun f hf => ?_
 unfold qFs at hf; rcases List.mem_append.1 hf with hf | hf
 · simp only [List.mem_cons, List.not_mem_nil, or_false] at hf; rcases hf with rfl | rfl
   · exact ⟨by show (0 : Int) <= 260; decide, by show (260 : Int) <= 65535; decide, by show exSz u.length <= 1232; rw [hu]; decide⟩
   · exact ⟨by show (0 : Int) <= 516; decide, by show (516 : Int) <= 65535; decide, by show exSz c.length <= 1232; rw [hc]; decide⟩
 · rw [List.eq_of_mem_replicate hf]; exact ⟨by decide, by decide, by decide⟩
theorem find_q1028 (u c : List UInt8) (n : Nat) (hn : n <= 7) : findX (qFs u c n) 1028 (2 + n) = [] := by
 match n, hn with
 | 0, _ => show findX (qFs u c 0) 1028 (2 + 0) = []; kernel_rfl
 | 1, _ => show findX (qFs u c 1) 1028 (2 + 1) = []; kernel_rfl
 | 2, _ => show findX (qFs u c 2) 1028 (2 + 2) = []; kernel_rfl
 | 3, _ => show findX (qFs u c 3) 1028 (2 + 3) = []; kernel_rfl
 | 4, _ => show findX (qFs u c 4) 1028 (2 + 4) = []; kernel_rfl
 | 5, _ => show findX (qFs u c 5) 1028 (2 + 5) = []; kernel_rfl
 | 6, _ => show findX (qFs u c 6) 1028 (2 + 6) = []; kernel_rfl
 | 7, _ => show findX (qFs u c 7) 1028 (2 + 7) = []; kernel_rfl
 | n + 8, h => omega
theorem find_q772 (u c : List UInt8) (n : Nat) (hn : n <= 7) : (findX (qFs u c n) 772 (n + 2)).length = n := by
 match n, hn with
 | 0, _ => show (findX (qFs u c 0) 772 (0 + 2)).length = 0; kernel_rfl
 | 1, _ => show (findX (qFs u c 1) 772 (1 + 2)).length = 1; kernel_rfl
 | 2, _ => show (findX (qFs u c 2) 772 (2 + 2)).length = 2; kernel_rfl
 | 3, _ => show (findX (qFs u c 3) 772 (3 + 2)).length = 3; kernel_rfl
 | 4, _ => show (findX (qFs u c 4) 772 (4 + 2)).length = 4; kernel_rfl
 | 5, _ => show (findX (qFs u c 5) 772 (5 + 2)).length = 5; kernel_rfl
 | 6, _ => show (findX (qFs u c 6) 772 (6 + 2)).length = 6; kernel_rfl
 | 7, _ => show (findX (qFs u c 7) 772 (7 + 2)).length = 7; kernel_rfl
 | n + 8, h => omega
theorem pad_q (u c : List UInt8) (n : Nat) (hu : u.length = 32) (hc : c.length = 104) : (qFs u c n).map padX = qFs u c n := by
 have hz : padX (772, z104) = (772, z104) := by decide +kernel
 unfold qFs; rw [List.map_append, List.map_cons, List.map_cons, List.map_nil, pad32 u hu, pad104 c hc, List.map_replicate, hz]
theorem typ_pad (fs : List (Int × List UInt8)) (i : Nat) : fldT (fs.map padX) i = fldT fs i := by
 unfold fldT; simp only [List.getD, List.getElem?_map]
 cases fs[i]? <;> rfl
theorem find_pad (fs : List (Int × List UInt8)) (kd : Int) (k : Nat) : findX (fs.map padX) kd k = findX fs kd k := by
 unfold findX; congr 1; funext i; rw [typ_pad]
theorem find_r516 (u c g : List UInt8) (n : Nat) (hn : n <= 7) : findX (qFs u c n ++ [(1028, g)]) 516 (n + 3) = [1] := by
 match n, hn with
 | 0, _ => show findX (qFs u c 0 ++ [(1028, g)]) 516 (0 + 3) = [1]; kernel_rfl
 | 1, _ => show findX (qFs u c 1 ++ [(1028, g)]) 516 (1 + 3) = [1]; kernel_rfl
 | 2, _ => show findX (qFs u c 2 ++ [(1028, g)]) 516 (2 + 3) = [1]; kernel_rfl
 | 3, _ => show findX (qFs u c 3 ++ [(1028, g)]) 516 (3 + 3) = [1]; kernel_rfl
 | 4, _ => show findX (qFs u c 4 ++ [(1028, g)]) 516 (4 + 3) = [1]; kernel_rfl
 | 5, _ => show findX (qFs u c 5 ++ [(1028, g)]) 516 (5 + 3) = [1]; kernel_rfl
 | 6, _ => show findX (qFs u c 6 ++ [(1028, g)]) 516 (6 + 3) = [1]; kernel_rfl
 | 7, _ => show findX (qFs u c 7 ++ [(1028, g)]) 516 (7 + 3) = [1]; kernel_rfl
 | n + 8, h => omega
theorem find_r260 (u c g : List UInt8) (n : Nat) (hn : n <= 7) : findX (qFs u c n ++ [(1028, g)]) 260 (n + 3) = [0] := by
 match n, hn with
 | 0, _ => show findX (qFs u c 0 ++ [(1028, g)]) 260 (0 + 3) = [0]; kernel_rfl
 | 1, _ => show findX (qFs u c 1 ++ [(1028, g)]) 260 (1 + 3) = [0]; kernel_rfl
 | 2, _ => show findX (qFs u c 2 ++ [(1028, g)]) 260 (2 + 3) = [0]; kernel_rfl
 | 3, _ => show findX (qFs u c 3 ++ [(1028, g)]) 260 (3 + 3) = [0]; kernel_rfl
 | 4, _ => show findX (qFs u c 4 ++ [(1028, g)]) 260 (4 + 3) = [0]; kernel_rfl
 | 5, _ => show findX (qFs u c 5 ++ [(1028, g)]) 260 (5 + 3) = [0]; kernel_rfl
 | 6, _ => show findX (qFs u c 6 ++ [(1028, g)]) 260 (6 + 3) = [0]; kernel_rfl
 | 7, _ => show findX (qFs u c 7 ++ [(1028, g)]) 260 (7 + 3) = [0]; kernel_rfl
 | n + 8, h => omega
theorem dat_r (u c : List UInt8) (x : Int × List UInt8) (n : Nat) (hc : c.length = 104) : fldD ((qFs u c n ++ [x]).map padX) 1 = c := by
 have e : fldD ((qFs u c n ++ [x]).map padX) 1 = (padX (516, c)).2 := rfl; rw [e, pad104 c hc]
theorem grd_length (up : List UInt8) (t : Nat) (fs : List (Int × List UInt8)) (nonce : List UInt8) (h : nonce.length = 16) : (grdF up t fs nonce).2.length = 36 := authLen up _ nonce h []
theorem tot_r (up u c nonce : List UInt8) (t n : Nat) (hu : u.length = 32) (hc : c.length = 104) (hn : nonce.length = 16) : totX (qFs u c n ++ [grdF up t (qFs u c n) nonce]) = 184 + 108 * n := by
 rw [totX_append, tot_q u c n hu hc, totX, totX, grd_length _ _ _ _ hn, show exSz 36 = 40 by decide]; omega
theorem err_r (up u c nonce : List UInt8) (t n : Nat) (hu : u.length = 32) (hc : c.length = 104) (hn : nonce.length = 16) : errX (qFs u c n ++ [grdF up t (qFs u c n) nonce]) = 0 := by
 rw [errX_append _ _ (err_q u c n hu hc)]; refine errX_all _ fun f hf => ?_
 simp only [List.mem_singleton] at hf; subst hf; refine ⟨by show (0 : Int) <= 1028; decide, by show (1028 : Int) <= 65535; decide, ?_⟩; rw [grd_length _ _ _ _ hn]; decide
def mkL (kid : Nat) (key up dn : List UInt8) (z k : Nat) : List (List UInt8) := (List.range k).map fun i => cookB kid key (wbytesL (z + i) 16) 15 up dn
theorem mkL_succ (kid : Nat) (key up dn : List UInt8) (z k : Nat) : ckF (mkL kid key up dn z (k + 1)) = ckF (mkL kid key up dn z k) ++ [(516, cookB kid key (wbytesL (z + k) 16) 15 up dn)] := by
 unfold mkL ckF; rw [List.range_succ, List.map_append, List.map_append]; rfl
theorem mkL_length (kid : Nat) (key up dn : List UInt8) (z k : Nat) : (mkL kid key up dn z k).length = k := by simp [mkL]
theorem mkL_each (kid : Nat) (key up dn : List UInt8) (z k : Nat) (hu : up.length = 32) (hd : dn.length = 32) : ∀ x ∈ mkL kid key up dn z k, x.length = 104 := by
 intro x hx; unfold mkL at hx; obtain ⟨i, _, rfl⟩ := List.mem_map.1 hx; exact cookB_length _ _ _ _ _ _ (wbytesL_length _ _) hu hd
def rpH (t : Nat) : HdT := ⟨0, 4, 4, 1, 6, -20, 0, 0, 0, 0, t, 7, 8⟩
theorem rpH_ok (t : Nat) (h : t < 18446744073709551616) : (rpH t).ok := ⟨(show HdOk ((0 : Nat) : Int) ((4 : Nat) : Int) ((4 : Nat) : Int) ((1 : Nat) : Int) 6 (-20) by decide), (show 0 < 4294967296 by decide), (show 0 < 4294967296 by decide), (show 0 < 4294967296 by decide), (show 0 < 18446744073709551616 by decide), h, (show 7 < 18446744073709551616 by decide), (show 8 < 18446744073709551616 by decide)⟩
theorem FldL.one (w : World) (f : Int × List UInt8) (A : Option Addr) (n c : Nat) (e : TypeId) (h : Bytes w A n c f.2) : FldL (w.alloc (.cells #[.int .i64 f.1, .slice A n c] e)) (some ⟨w.heap.size, 0, none⟩) 1 1 [f] := by
 refine ⟨_, rd_pair w (.int .i64 f.1) (.slice A n c) e, rfl, fun i g hg => ?_⟩
 cases i with
 | zero =>
  have : f = g := by simpa using hg
  subst this; exact ⟨A, n, c, rfl, rfl, h.stays (below_alloc1 _ _)⟩
 | succ i => simp at hg
theorem exec_load_mid {P : Program} {o : Oper} {a : Act} {w : World} (ty : TypeId) (x : Operand) (ho : o.op = .load ty x) (b k : Nat) (hx : a.eval x = .pointer (some ⟨b, k, none⟩)) (cs : List Value) (d : TypeDesc) (hc : w.rangeAt b k cs) (hu : P.underlying ty = some d) (hd : d.isRow = true) (hi : (P.info? ty).map (·.size) = some cs.length) :
    (execOp a.eval o).run P w = .ok (.value (.agg cs.toArray)) w := by
 have hl := run_loadAt_mid (P := P) w b k ty cs d hc hu hd hi; unfold execOp; simp only [ho, hx, Sem.run_bind, hl, Result.andThen_ok, Sem.run_pure]
theorem two_range {w : World} {b o : Nat} {v1 v2 : Value} (h1 : w.cell? ⟨b, o, none⟩ = some v1) (h2 : w.cell? ⟨b, o + 1, none⟩ = some v2) : w.rangeAt b o [v1, v2] := by
 intro j v hv
 match j with
 | 0 => have e : v1 = v := by simpa using hv
        rw [Nat.add_zero, h1, e]
 | 1 => have e : v2 = v := by simpa using hv
        rw [h2, e]
 | j + 2 => simp at hv
theorem infoFl2 : (Tryz.prog.info? 97).map (·.size) = some 2 := by kernel_rfl
theorem ckOpen_no2 (v : Value) (ks : List (Int × List UInt8)) (id : Nat) (hid : id <= 4294967295) (key nonce up dn : List UInt8) (hnl : nonce.length = 16) (hul : up.length = 32) (hdl : dn.length = 32) (Ac : Option Addr) (cc : Nat) (w : World) (h : RingV w v ks) (hg : RingG ks) (hc : Bytes w Ac 104 cc (cookB id key nonce 15 up dn)) (hno : ∀ i, i < ks.length -> fldT ks i ≠ (id : Int)) : Calls Tryz.prog 44 #[v, .slice Ac 104 cc] w fun e w' => (∃ a b, e = .returned (.tuple #[.int .i64 a, .agg #[.slice none 0 0, .slice none 0 0], .int .i64 b, .int .i64 5])) ∧ Below w.heap.size w w' := by
 have HV := qq (fun W hW => ckValid_any v ks W hW hg); have HR := qq h; have HG := qq hg; obtain ⟨A, n, c, rfl, hF⟩ := h; have hlen := hF.len; obtain ⟨gc, oc, rfl, _⟩ := hc.at_ (by decide : 0 < 104); have hcl := hc.le; have hcc := hc.cap; have HF := qq hF; have HC := qq hc; have hid : id <= 4294967295 := hid; clear hF hc hg
 go_enter Tryz.func44, Tryz.ntmps44
 go_upto_region 1 with fail
 obtain ⟨y1, x_, r_, ey1, ex_, er_⟩ : ∃ y1 x_ r_, y1 = (w.alloc (.cells #[.slice A n c] 25)).alloc (.cells #[.slice none 0 0, .slice none 0 0] 29) ∧ x_ = w.heap.size ∧ r_ = w.heap.size + 1 := ⟨_, _, _, rfl, rfl, rfl⟩; rw [<- ey1, <- er_, <- ex_]; have hb1 : Below w.heap.size w y1 := by rw [ey1]; exact below_alloc2 _ _ _
 have BX := qq (show Blk y1 x_ 25 #[.slice A n c] by rw [ey1, ex_]; exact blk_new2_0 _ _ _ _ _); have BR := qq (show Blk y1 r_ 29 #[.slice none 0 0, .slice none 0 0] by rw [ey1, er_]; exact blk_new2_1 _ _ _ _ _); have wr_ : w.heap.size <= r_ := by omega
 have RW := qq hb1; clear hb1 ey1 ex_ er_; have kc1 := BX.out.cell 0
 go_wp2_with fail
 refine (HV.out _ (HR.out.stays RW.out)).mono ?_; rintro e y2 ⟨rfl, hb⟩; have BX := qs BX hb; have BR := qs BR hb; have RW := qt RW hb; clear hb kc1
 go_wp2_with fail
 refine (ckCut_any gc oc 104 cc (by decide) hcl hcc _).mono ?_; rintro e y3 ⟨rfl, hb⟩; have BX := qs BX hb; have BR := qs BR hb; have RW := qt RW hb; clear hb
 go_upto_region 4 with fail
 obtain ⟨y4, i_, ey4, ei_⟩ : ∃ y4 i_, y4 = y3.alloc (.cells #[.slice (some ⟨gc, oc, none⟩) 4 cc] 27) ∧ i_ = y3.heap.size := ⟨_, _, rfl, rfl⟩; rw [<- ey4, <- ei_]; have hb : Below y3.heap.size y3 y4 := by rw [ey4]; exact below_alloc1 _ _
 have BI := qq (show Blk y4 i_ 27 #[.slice (some ⟨gc, oc, none⟩) 4 cc] by rw [ey4, ei_]; exact blk_new1_0 _ _ _); have BX := qs BX hb; have BR := qs BR hb; have RW := qt RW hb; clear hb ey4 ei_; have e4 : (cookB id key nonce 15 up dn).take 4 = putL id 4 := by unfold cookB ckB; rw [List.take_append_of_le_length (by rw [putL_length]; exact Nat.le_refl _), List.take_of_length_le (by rw [putL_length]; exact Nat.le_refl _)]
 have e20 : (cookB id key nonce 15 up dn).drop 4 = nonce ++ sealB key [putL id 4, nonce] (cookP 15 up dn) := by unfold cookB ckB; rw [List.drop_append_of_le_length (by rw [putL_length]; exact Nat.le_refl _), List.drop_of_length_le (by rw [putL_length]; exact Nat.le_refl _), List.nil_append]
 have H4 := qq (show Bytes y4 (some ⟨gc, oc, none⟩) 4 cc (putL id 4) from by rw [<- e4]; exact (HC.out.stays RW.out).cutTo 4 (by decide)); have kc1 := BX.out.cell 0
 go_wp2_with fail
 refine (idxMaster (.pointer (some ⟨i_, 0, none⟩)) (fun t => decide (t = (id : Int))) A n c ks _ (HF.out.stays RW.out) (fun W k A' n' c' l hbW _ hk => ?hop)).mono ?_
 case hop =>
  obtain ⟨i, hi, rfl⟩ := hk; have h2 := HG.out.2.2.1 i hi; obtain ⟨kn, hkn⟩ : ∃ kn : Nat, fldT ks i = kn := ⟨(fldT ks i).toNat, by omega⟩; rw [hkn] at h2 ⊢; refine (ckOpen1_any kn (by omega) A' n' c' i_ (some ⟨gc, oc, none⟩) cc id hid W (BI.out.stays hbW) (H4.out.stays hbW)).mono ?_; rintro e w' ⟨rfl, hb⟩; exact ⟨by simp [Int.natCast_inj], hb⟩
 rintro e y5 ⟨r, rfl, hr, hb⟩; have BR := qs BR hb; have RW := qt RW hb; clear hb kc1; have hr : r = -1 := by
  rcases hr with ⟨j, hj, hp, _, _⟩ | ⟨_, h⟩
  · exact absurd (of_decide_eq_true hp) (hno j hj)
  · exact h
 subst hr
 go_wp2_with (refine wpList_store_part rfl 29 _ _ rfl r_ 0 29 [] [.slice none 0 0, .slice none 0 0] [] [.slice none 0 0, .slice none 0 0] rfl rfl BR.out rfl rfl infoPair (by simp [Value.oneCell']) ?_; intro y8 D8 G8; rw [List.append_nil, List.nil_append] at D8)
 refine bodyPost_ret (results_tcll rfl _ _ r_ _ _ _ _ _ _ rfl rfl rfl rfl D8 Tryz.underlying29 rfl infoPair) rfl ⟨⟨_, _, rfl⟩, RW.out.grown G8 RW.out.size (fun k hk => by cases hk; exact wr_)⟩
end Go.Proofs.YtiemnacoebkalaaGreat
