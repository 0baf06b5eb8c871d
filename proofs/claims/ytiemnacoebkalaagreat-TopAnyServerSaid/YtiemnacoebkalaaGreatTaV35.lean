import Derived.Test.YtiemnacoebkalaaGreatTaV34
set_option linter.all false
set_option maxRecDepth 100000
set_option maxHeartbeats 4000000
namespace Go.Proofs.YtiemnacoebkalaaGreat
open Go Go.RowKit
theorem infoHdr : (Tryz.prog.info? 48).map (·.size) = some 13 := by kernel_rfl
theorem serve_any (rg : Value) (ks : List (Int × List UInt8)) (kid : Nat) (hkid : kid <= 4294967295) (key : List UInt8) (rest : List (Int × List UInt8)) (up dn n0 uq : List UInt8) (t n z : Nat) (ht : t < 18446744073709551616) (hn7 : n <= 7) (hz : z <= 1000000) (nonce : List UInt8) (AQ : Option Addr) (nQ cQ : Nat) (w : World)
    (hr : RingV w rg ks) (hg : RingG ks) (hcs : ks = ((kid : Int), key) :: rest ∨ ∀ i, i < ks.length -> fldT ks i ≠ (kid : Int)) (hq : Bytes w AQ nQ cQ (protB up (askH t) (qFs uq (cookB kid key n0 15 up dn) n) [] nonce)) (hn0 : n0.length = 16) (hup : up.length = 32) (hdn : dn.length = 32) (huq : uq.length = 32) (hno : nonce.length = 16)
    (FQ : List (Int × List UInt8)) (hFS : FQ = qFs uq (cookB kid key n0 15 up dn) n) (RF : List (Int × List UInt8)) (hRF : RF = (FQ ++ [grdF up t FQ nonce]).map padX)
    (eR : errX (FQ ++ [grdF up t FQ nonce]) = 0) (tR : totX (FQ ++ [grdF up t FQ nonce]) <= 1232) (f516 : findX RF 516 (n + 3) = [1]) (f260 : findX RF 260 (n + 3) = [0]) (dR : fldD RF 1 = cookB kid key n0 15 up dn)
    (e1 : errX FQ = 0) (t1 : totX FQ <= 1192) (f1 : findX FQ 1028 FQ.length = []) (hpad : FQ.map padX = FQ) (f772 : (findX FQ 772 (n + 2)).length = n) :
    Calls Tryz.prog 11 #[rg, .slice AQ nQ cQ, .int .i64 z] w fun e w' => (ks = ((kid : Int), key) :: rest ∧ (∃ A' n' c', e = .returned (.tuple #[.slice A' n' c', .bool true]) ∧ Bytes w' A' n' c' (protB dn (rpH t) [(260, uq)] (ckF (mkL kid key up dn z (n + 1))) (wbytesL (z + 100) 16))) ∨ (∀ i, i < ks.length -> fldT ks i ≠ (kid : Int)) ∧ e = .returned (.tuple #[.slice none 0 0, .bool false])) ∧ Below w.heap.size w w' := by
 obtain ⟨i0, hi, hz0, hz1, hz2⟩ := info_parts infoFld; have hr' := hr; obtain ⟨AR, nR, cR, rfl, _⟩ := hr'; have HR0 := qq hr; have HG := qq hg; have HCS := qq hcs; have HQ0 := qq hq; have HF516 := qq f516; have HF260 := qq f260; have HDR := qq dR; have hRl : (FQ ++ [grdF up t FQ nonce]).length = n + 3 := by rw [hFS, List.length_append, qFs_length]; simp; omega
 have hRFl : RF.length = n + 3 := by rw [hRF, List.length_map, hRl]
 have HRFL := qq hRFl; have HRD := qq (fun (W : World) (hW : Bytes W AQ nQ cQ (protB up (askH t) FQ [] nonce)) => pRead_any (askH t) (askH_ok t ht) (FQ ++ [grdF up t FQ nonce]) AQ nQ cQ W (by rw [<- protB_ask]; exact hW) eR (by rw [hRl]; omega) tR); rw [<- hFS] at HQ0; have hOpen := fun (W : World) (Au : Option Addr) (cu : Nat) (hU : Bytes W Au 32 cu up) (hW : Bytes W AQ nQ cQ (protB up (askH t) FQ [] nonce)) => prOpen_any (askH t) (askH_ok t ht) Au cu up AQ nQ cQ FQ [] nonce W hU hW hno e1 rfl (by rw [hFS, qFs_length]; omega) (by decide) t1 f1
 have HOPN := qq hOpen; have HPAD := qq hpad; clear hOpen; have HRF := qq hRF; clear hr hg hcs hq f516 f260 dR hRl hRFl hRF
 go_enter Tryz.func11, Tryz.ntmps11
 go_upto_region 1 with fail
 obtain ⟨wz, g_, ewz, eg_⟩ : ∃ wz g_, wz = w.alloc (.cells #[.slice AR nR cR] 25) ∧ g_ = w.heap.size := ⟨_, _, rfl, rfl⟩; have hb : Below w.heap.size w wz := by rw [ewz]; exact below_alloc1 _ _
 have BG := qq (show Blk wz g_ 25 #[.slice AR nR cR] by rw [ewz, eg_]; exact Blk.new _ _ _); rw [<- ewz, <- eg_]; have RW := qq hb; clear hb ewz eg_
 go_wp2_with fail
 refine (HRD.out _ (HQ0.out.stays RW.out)).mono ?_; rintro e y1 ⟨A1, m1, c1, rfl, hF1, hb⟩; rw [<- HRF.out] at hF1; have BG := qs BG hb; have RW := qt RW hb; have hm1 : m1 = n + 3 := by rw [<- hF1.len, HRFL.out]
 obtain ⟨b1, o1, A5, n5, c5, rfl, _, hc1, hy⟩ := hF1.at_ (i := 1) (by omega); rw [HDR.out] at hy; obtain rfl : n5 = 104 := by rw [<- hy.len, cookB_length _ _ _ _ _ _ hn0 hup hdn]
 have HF1 := qq hF1; have HY := qq hy; have HM1 := qq hm1; have hq13 := hF1.le; have hq14 := hF1.cap; have hm13 : 3 <= m1 := by omega
 have hm1x : m1 <= 10 := by omega
 clear hb hF1 hy hm1; unfold pkA askH
 go_upto_region 2 with (refine wpList_store_part rfl 51 _ _ rfl y1.heap.size 0 51 [] [.int .i64 0, .int .i64 0, .int .i64 0, .int .i64 0, .int .i64 0, .int .i64 0, .int .u32 0, .int .u32 0, .int .u32 0, .int .u64 0, .int .u64 0, .int .u64 0, .int .u64 0, .slice none 0 0, .slice none 0 0, .bool false] [] [.int .i64 0, .int .i64 4, .int .i64 3, .int .i64 0, .int .i64 6, .int .i64 0, .int .u32 0, .int .u32 0, .int .u32 0, .int .u64 0, .int .u64 0, .int .u64 0, .int .u64 (t : Int), .slice (some ⟨b1, o1, none⟩) m1 c1, .slice none 0 0, .bool false] rfl rfl (Blk.new _ _ _) rfl rfl infoPk (by simp [Value.oneCell']) ?_; intro y2 D9 G; have G := below_new_store G; rw [List.append_nil, List.nil_append] at D9)
 obtain ⟨p_, ep⟩ : ∃ p_, p_ = y1.heap.size := ⟨_, rfl⟩; rw [<- ep] at D9 ⊢; have BP := qq D9; have hcY := qq (cell_stays G hc1); have BG := qs BG G; have HF1 := qs HF1 G; have HY := qs HY G; have RW := qt RW G; clear G D9 ep hc1; have k13 := BP.out.cell 13
 go_wp2_with fail
 refine (find_any _ m1 c1 RF 516 _ HF1.out (by omega)).mono ?_; rintro e y3 ⟨AI, mI, cI, rfl, hI, hb⟩; rw [HM1.out, HF516.out] at hI; obtain rfl : mI = 1 := hI.len.symm; have hcY := qq (cell_stays hb hcY.out); have BG := qs BG hb; have HF1 := qs HF1 hb; have HY := qs HY hb; have BP := qs BP hb; have RW := qt RW hb; have HI := qq hI; clear hb hI k13; have k13 := BP.out.cell 13
 go_wp2_with fail
 refine (find_any _ m1 c1 RF 260 _ HF1.out (by omega)).mono ?_; rintro e y4 ⟨AJ, mJ, cJ, rfl, hJ, hb⟩; rw [HM1.out, HF260.out] at hJ; obtain rfl : mJ = 1 := hJ.len.symm; have hcY := qq (cell_stays hb hcY.out); have HI := qs HI hb; have BG := qs BG hb; have HF1 := qs HF1 hb; have HY := qs HY hb; have BP := qs BP hb; have RW := qt RW hb; obtain ⟨bI, oI, rfl, hcA⟩ := HI.out.at_ (i := 0) (by decide); obtain ⟨bJ, oJ, rfl, hcI⟩ := hJ.at_ (i := 0) (by decide); have hcA : y4.cell? ⟨bI, oI, none⟩ = some (.int .i64 1) := hcA; have hcI : y4.cell? ⟨bJ, oJ, none⟩ = some (.int .i64 0) := hcI; have hcA := qq hcA; have hcI := qq hcI; have hI1 := HI.out.2.1; have hJ1 := hJ.2.1; have i1 : (1 : Int) < (m1 : Int) := by omega
 have i2 : ¬ (m1 : Int) <= 1 := by omega
 have i3 : ¬ (m1 : Int) <= 0 := by omega
 have i4 : ¬ m1 <= 1 := by omega
 have i5 : ¬ m1 <= 0 := by omega
 have i6 : ¬ m1 = 0 := by omega
 clear hb hJ k13
 go_wp2_with fail
 refine take_start (S := fun u => Below y4.heap.size y4 u) (by kernel_rfl) ?hPQ (Below.refl _ _).drew (fun hPQ hHeld => ?rest4)
 case hPQ => (repeat (with_reducible first | refine PQ.then ?_ | refine PQ.block ?_)); exact fun _ _ d _ _ h => by cases d <;> exact h
 case rest4 =>
 obtain ⟨yd, hyd⟩ : ∃ yd, y4.drew = yd := ⟨_, rfl⟩; rw [hyd] at hHeld ⊢; clear hyd; refine qv (i := 0) (d := some 37) (v := ?_) rfl rfl (by kernel_rfl) hPQ (fun u hu => ?_) hHeld ?_
 rotate_left 1
 · go_simp; try with_reducible rfl
 try simp only [qp, qn]
 refine qv (i := 1) (d := some 38) (v := ?_) rfl rfl (by kernel_rfl) hPQ (fun u hu => ?_) hHeld ?_
 rotate_left 1
 · go_simp; try with_reducible rfl
 try simp only [qp, qn]
 refine qv (i := 2) (d := some 39) (v := ?_) rfl rfl (by kernel_rfl) hPQ (fun u hu => ?_) hHeld ?_
 rotate_left 1
 · go_simp; try with_reducible rfl
 try simp only [qp, qn]
 refine qv (i := 3) (d := some 40) (v := ?_) rfl rfl (by kernel_rfl) hPQ (fun u hu => ?_) hHeld ?_
 rotate_left 1
 · go_simp; try with_reducible rfl
 try simp only [qp, qn]
 refine qv (i := 4) (d := some 41) (v := ?_) rfl rfl (by kernel_rfl) hPQ (fun u hu => ?_) hHeld ?_
 rotate_left 1
 · go_simp; try with_reducible rfl
 try simp only [qp, qn]
 refine qv (i := 5) (d := some 42) (v := ?_) rfl rfl (by kernel_rfl) hPQ (fun u hu => ?_) hHeld ?_
 rotate_left 1
 · go_simp; try with_reducible rfl
 try simp only [qp, qn]
 refine qv (i := 6) (d := some 43) (v := ?_) rfl rfl (by kernel_rfl) hPQ (fun u hu => ?_) hHeld ?_
 rotate_left 1
 · go_simp; try with_reducible rfl
 try simp only [qp, qn]
 refine qv (i := 7) (d := some 44) (v := ?_) rfl rfl (by kernel_rfl) hPQ (fun u hu => ?_) hHeld ?_
 rotate_left 1
 · go_simp; try with_reducible rfl
 try simp only [qp, qn]
 refine qv (i := 8) (d := some 45) (v := ?_) rfl rfl (by kernel_rfl) hPQ (fun u hu => ?_) hHeld ?_
 rotate_left 1
 · go_simp; try with_reducible rfl
 try simp only [qp, qn]
 refine qv (i := 9) (d := some 46) (v := ?_) rfl rfl (by kernel_rfl) hPQ (fun u hu => ?_) hHeld ?_
 rotate_left 1
 · go_simp; try with_reducible rfl
 try simp only [qp, qn]
 refine qv (i := 10) (d := some 47) (v := ?_) rfl rfl (by kernel_rfl) hPQ (fun u hu => ?_) hHeld ?_
 rotate_left 1
 · go_simp; try with_reducible rfl
 try simp only [qp, qn]
 refine qv (i := 11) (d := some 48) (v := ?_) rfl rfl (by kernel_rfl) hPQ (fun u hu => ?_) hHeld ?_
 rotate_left 1
 · go_simp; try with_reducible rfl
 try simp only [qp, qn]
 refine qv (i := 12) (d := some 49) (v := ?_) rfl rfl (by kernel_rfl) hPQ (fun u hu => ?_) hHeld ?_
 rotate_left 1
 · go_simp; try with_reducible rfl
 try simp only [qp, qn]
 refine qv (i := 13) (d := some 50) (v := ?_) rfl rfl (by kernel_rfl) hPQ (fun u hu => ?_) hHeld ?_
 rotate_left 1
 · go_simp; try with_reducible rfl
 try simp only [qp, qn]
 refine qv (i := 14) (d := some 51) (v := ?_) rfl rfl (by kernel_rfl) hPQ (fun u hu => ?_) hHeld ?_
 rotate_left 1
 · go_simp; try with_reducible rfl
 try simp only [qp, qn]
 refine qv (i := 15) (d := some 52) (v := ?_) rfl rfl (by kernel_rfl) hPQ (fun u hu => ?_) hHeld ?_
 rotate_left 1
 · have k1 := (BP.out.stays hu).cell 13; have k2 := cell_stays hu hcA.out; have k3 := cell_stays hu hcI.out; go_simp; try with_reducible rfl
 try simp only [qp, qn]
 refine qv (i := 16) (d := some 53) (v := ?_) rfl rfl (by kernel_rfl) hPQ (fun u hu => ?_) hHeld ?_
 rotate_left 1
 · go_simp; try with_reducible rfl
 try simp only [qp, qn]
 refine qv (i := 17) (d := some 54) (v := ?_) rfl rfl (by kernel_rfl) hPQ (fun u hu => ?_) hHeld ?_
 rotate_left 1
 · go_simp; try with_reducible rfl
 try simp only [qp, qn]
 refine qv (i := 18) (d := some 55) (v := ?_) rfl rfl (by kernel_rfl) hPQ (fun u hu => ?_) hHeld ?_
 rotate_left 1
 · go_simp; try with_reducible rfl
 try simp only [qp, qn]
 refine qv (i := 19) (d := some 56) (v := ?_) rfl rfl (by kernel_rfl) hPQ (fun u hu => ?_) hHeld ?_
 rotate_left 1
 · go_simp; try with_reducible rfl
 try simp only [qp, qn]
 refine qv (i := 20) (d := some 57) (v := ?_) rfl rfl (by kernel_rfl) hPQ (fun u hu => ?_) hHeld ?_
 rotate_left 1
 · go_simp; try with_reducible rfl
 try simp only [qp, qn]
 refine qv (i := 21) (d := some 58) (v := ?_) rfl rfl (by kernel_rfl) hPQ (fun u hu => ?_) hHeld ?_
 rotate_left 1
 · have k1 := (BP.out.stays hu).cell 13; have k2 := cell_stays hu hcA.out; have k3 := cell_stays hu hcI.out; go_simp; try with_reducible rfl
 try simp only [qp, qn]
 refine qv (i := 22) (d := some 59) (v := ?_) rfl rfl (by kernel_rfl) hPQ (fun u hu => ?_) hHeld ?_
 rotate_left 1
 · go_simp; try with_reducible rfl
 try simp only [qp, qn]
 refine qv (i := 23) (d := some 60) (v := ?_) rfl rfl (by kernel_rfl) hPQ (fun u hu => ?_) hHeld ?_
 rotate_left 1
 · have k1 := (BP.out.stays hu).cell 13; have k2 := cell_stays hu hcA.out; have k3 := cell_stays hu hcI.out; go_simp; try with_reducible rfl
 try simp only [qp, qn]
 refine qv (i := 24) (d := some 61) (v := ?_) rfl rfl (by kernel_rfl) hPQ (fun u hu => ?_) hHeld ?_
 rotate_left 1
 · go_simp; try with_reducible rfl
 try simp only [qp, qn]
 refine qv (i := 25) (d := some 62) (v := .bool false) rfl rfl (by kernel_rfl) hPQ (fun u hu => ?_) hHeld ?_
 · go_simp; try first | (with_reducible rfl) | (simp [i2]; done) | (simp; omega)
 try simp only [qp, qn]
 refine qv (i := 26) (d := some 63) (v := ?_) rfl rfl (by kernel_rfl) hPQ (fun u hu => ?_) hHeld ?_
 rotate_left 1
 · go_simp; try with_reducible rfl
 try simp only [qp, qn]
 refine qv (i := 27) (d := some 64) (v := ?_) rfl rfl (by kernel_rfl) hPQ (fun u hu => ?_) hHeld ?_
 rotate_left 1
 · go_simp; try with_reducible rfl
 try simp only [qp, qn]
 refine qv (i := 28) (d := some 65) (v := ?_) rfl rfl (by kernel_rfl) hPQ (fun u hu => ?_) hHeld ?_
 rotate_left 1
 · go_simp; try with_reducible rfl
 try simp only [qp, qn]
 refine qv (i := 29) (d := some 66) (v := ?_) rfl rfl (by kernel_rfl) hPQ (fun u hu => ?_) hHeld ?_
 rotate_left 1
 · go_simp; try with_reducible rfl
 try simp only [qp, qn]
 refine qv (i := 30) (d := some 67) (v := ?_) rfl rfl (by kernel_rfl) hPQ (fun u hu => ?_) hHeld ?_
 rotate_left 1
 · have k1 := (BP.out.stays hu).cell 13; have k2 := cell_stays hu hcA.out; have k3 := cell_stays hu hcI.out; go_simp; try with_reducible rfl
 try simp only [qp, qn]
 refine qv (i := 31) (d := some 68) (v := ?_) rfl rfl (by kernel_rfl) hPQ (fun u hu => ?_) hHeld ?_
 rotate_left 1
 · go_simp; try with_reducible rfl
 try simp only [qp, qn]
 refine qv (i := 32) (d := some 69) (v := ?_) rfl rfl (by kernel_rfl) hPQ (fun u hu => ?_) hHeld ?_
 rotate_left 1
 · go_simp; try with_reducible rfl
 try simp only [qp, qn]
 refine qv (i := 33) (d := some 70) (v := ?_) rfl rfl (by kernel_rfl) hPQ (fun u hu => ?_) hHeld ?_
 rotate_left 1
 · go_simp; try with_reducible rfl
 try simp only [qp, qn]
 refine qv (i := 34) (d := some 71) (v := ?_) rfl rfl (by kernel_rfl) hPQ (fun u hu => ?_) hHeld ?_
 rotate_left 1
 · go_simp; try with_reducible rfl
 try simp only [qp, qn]
 refine qv (i := 35) (d := some 72) (v := ?_) rfl rfl (by kernel_rfl) hPQ (fun u hu => ?_) hHeld ?_
 rotate_left 1
 · go_simp; try with_reducible rfl
 try simp only [qp, qn]
 refine qv (i := 36) (d := some 73) (v := ?_) rfl rfl (by kernel_rfl) hPQ (fun u hu => ?_) hHeld ?_
 rotate_left 1
 · have k1 := (BP.out.stays hu).cell 13; have k2 := cell_stays hu hcA.out; have k3 := cell_stays hu hcI.out; go_simp; try with_reducible rfl
 try simp only [qp, qn]
 refine qv (i := 37) (d := some 74) (v := ?_) rfl rfl (by kernel_rfl) hPQ (fun u hu => ?_) hHeld ?_
 rotate_left 1
 · go_simp; try with_reducible rfl
 try simp only [qp, qn]
 refine qv (i := 38) (d := some 75) (v := ?_) rfl rfl (by kernel_rfl) hPQ (fun u hu => ?_) hHeld ?_
 rotate_left 1
 · have k1 := (BP.out.stays hu).cell 13; have k2 := cell_stays hu hcA.out; have k3 := cell_stays hu hcI.out; go_simp; try with_reducible rfl
 try simp only [qp, qn]
 refine qv (i := 39) (d := some 76) (v := ?_) rfl rfl (by kernel_rfl) hPQ (fun u hu => ?_) hHeld ?_
 rotate_left 1
 · go_simp; try with_reducible rfl
 try simp only [qp, qn]
 refine qv (i := 40) (d := some 77) (v := .bool false) rfl rfl (by kernel_rfl) hPQ (fun u hu => ?_) hHeld ?_
 · go_simp; try first | (with_reducible rfl) | (simp [i3]; done) | (simp; omega)
 try simp only [qp, qn]
 refine qv (i := 41) (d := some 78) (v := ?_) rfl rfl (by kernel_rfl) hPQ (fun u hu => ?_) hHeld ?_
 rotate_left 1
 · go_simp; try with_reducible rfl
 try simp only [qp, qn]
 refine wpAnyH_done (by kernel_rfl) ?_ _; have RW := qt RW hHeld; have BG := qs BG hHeld; have BP := qs BP hHeld; have HY := qs HY hHeld; have HF1 := qs HF1 hHeld; have hcA := qq (cell_stays hHeld hcA.out); have hcI := qq (cell_stays hHeld hcI.out); have hcY := qq (cell_stays hHeld hcY.out); clear hPQ hHeld
 go_upto_region 6 with fail
 go_wp2_with fail
 refine take_start (S := fun u => Below yd.heap.size yd u) (by kernel_rfl) ?hPQ (Below.refl _ _).drew (fun hPQ hHeld => ?rest6)
 case hPQ => (repeat (with_reducible first | refine PQ.then ?_ | refine PQ.block ?_)); exact fun _ _ d _ _ h => by cases d <;> exact h
 case rest6 =>
 obtain ⟨ye, hye⟩ : ∃ ye, yd.drew = ye := ⟨_, rfl⟩; rw [hye] at hHeld ⊢; clear hye; have hYE := qq hHeld.size; refine qv (i := 0) (d := some 80) (v := .agg #[.slice AR nR cR]) rfl rfl (by kernel_rfl) hPQ (fun u hu => ?_) hHeld ?_
 · exact exec_load_part 25 _ rfl g_ 0 25 [] [.slice AR nR cR] [] _ rfl (BG.out.stays hu) rfl Tryz.underlying25 rfl infoRing
 try simp only [qp, qn]
 refine qv (i := 1) (d := some 81) (v := ?_) rfl rfl (by kernel_rfl) hPQ (fun u hu => ?_) hHeld ?_
 rotate_left 1
 · go_simp; try with_reducible rfl
 try simp only [qp, qn]
 refine qv (i := 2) (d := some 82) (v := ?_) rfl rfl (by kernel_rfl) hPQ (fun u hu => ?_) hHeld ?_
 rotate_left 1
 · have k1 := (BP.out.stays hu).cell 13; have k2 := cell_stays hu hcA.out; have k3 := cell_stays hu hcI.out; have k4 := cell_stays hu hcY.out; go_simp; try with_reducible rfl
 try simp only [qp, qn]
 refine qv (i := 3) (d := some 83) (v := ?_) rfl rfl (by kernel_rfl) hPQ (fun u hu => ?_) hHeld ?_
 rotate_left 1
 · go_simp; try with_reducible rfl
 try simp only [qp, qn]
 refine qv (i := 4) (d := some 84) (v := ?_) rfl rfl (by kernel_rfl) hPQ (fun u hu => ?_) hHeld ?_
 rotate_left 1
 · go_simp; try with_reducible rfl
 try simp only [qp, qn]
 refine qv (i := 5) (d := some 85) (v := ?_) rfl rfl (by kernel_rfl) hPQ (fun u hu => ?_) hHeld ?_
 rotate_left 1
 · have k1 := (BP.out.stays hu).cell 13; have k2 := cell_stays hu hcA.out; have k3 := cell_stays hu hcI.out; have k4 := cell_stays hu hcY.out; go_simp; try with_reducible rfl
 try simp only [qp, qn]
 refine qv (i := 6) (d := some 86) (v := ?_) rfl rfl (by kernel_rfl) hPQ (fun u hu => ?_) hHeld ?_
 rotate_left 1
 · go_simp; try with_reducible rfl
 try simp only [qp, qn]
 refine qv (i := 7) (d := some 87) (v := ?_) rfl rfl (by kernel_rfl) hPQ (fun u hu => ?_) hHeld ?_
 rotate_left 1
 · go_simp; try with_reducible rfl
 try simp only [qp, qn]
 refine qv (i := 8) (d := some 88) (v := ?_) rfl rfl (by kernel_rfl) hPQ (fun u hu => ?_) hHeld ?_
 rotate_left 1
 · have k1 := (BP.out.stays hu).cell 13; have k2 := cell_stays hu hcA.out; have k3 := cell_stays hu hcI.out; have k4 := cell_stays hu hcY.out; go_simp; try with_reducible rfl
 try simp only [qp, qn]
 rcases HCS.out with he | hnk
 · have HE := qq he; clear he; refine take_fork (α := Option Addr × Nat × Option Addr × Nat) (i := 15) (j := 9) (di := some 13) (dj := some 89) (val := fun x => .tuple #[.int .i64 15, .agg #[.slice x.1 32 x.2.1, .slice x.2.2.1 32 x.2.2.2], .int .i64 0, .int .i64 0]) (R := fun x u => Bytes u x.1 32 x.2.1 up ∧ Bytes u x.2.2.1 32 x.2.2.2 dn) (z := #[.slice none 0 0, .slice none 0 0]) (T := 29) (C := ?C) rfl rfl rfl rfl (by kernel_rfl) (by kernel_rfl) (by kernel_rfl) rfl rfl ?hal (fun u hu => (ckOpen_any _ ks kid hkid key n0 up dn hn0 hup hdn A5 c5 u (HR0.out.stays (RW.out.trans (hu.mono RW.out.size))) HG.out (HY.out.stays hu) rest HE.out).mono (fun e q h => by obtain ⟨Au, cu, Ad, cd, h1, h2, h3, h4⟩ := h; exact ⟨(Au, cu, Ad, cd), h1, ⟨h2, h3⟩, h4⟩)) ?hr ?hr2 hHeld (fun u u2 hu hb => hu.trans (hb.mono hu.size)) ?hi ?hj (fun x u u2 h hb => ⟨h.1.stays hb, h.2.stays hb⟩) ?h6
   case hal => go_simp; try with_reducible rfl
   case hr => go_simp
   case hr2 => intro v w; go_simp
   case hi =>
    intro x t_ w6 hHeld hC; try simp only [qp, qn]
    refine qv (i := 10) (d := some 79) (v := ?_) rfl rfl (by kernel_rfl) hPQ (fun u hu => ?_) hHeld ?_
    rotate_left 1
    · go_simp; try with_reducible rfl
    try simp only [qp, qn]
    refine qv (i := 11) (d := some 90) (v := ?_) rfl rfl (by kernel_rfl) hPQ (fun u hu => ?_) hHeld ?_
    rotate_left 1
    · go_simp; try with_reducible rfl
    try simp only [qp, qn]
    refine qv (i := 12) (d := some 91) (v := ?_) rfl rfl (by kernel_rfl) hPQ (fun u hu => ?_) hHeld ?_
    rotate_left 1
    · go_simp; try with_reducible rfl
    try simp only [qp, qn]
    refine qv (i := 13) (d := some 92) (v := ?_) rfl rfl (by kernel_rfl) hPQ (fun u hu => ?_) hHeld ?_
    rotate_left 1
    · go_simp; try with_reducible rfl
    try simp only [qp, qn]
    refine qv (i := 14) (d := some 93) (v := ?_) rfl rfl (by kernel_rfl) hPQ (fun u hu => ?_) hHeld ?_
    rotate_left 1
    · go_simp; try with_reducible rfl
    try simp only [qp, qn]
    refine relist (L' := #[true, true, true, true, true, true, true, true, true, true, true, true, true, true, true, true, false, false, false, false]) (by kernel_rfl) ?_; exact hC
   case hj =>
    intro x w6 hHeld hC; try simp only [qp, qn]
    refine qv (i := 10) (d := some 79) (v := ?_) rfl rfl (by kernel_rfl) hPQ (fun u hu => ?_) hHeld ?_
    rotate_left 1
    · go_simp; try with_reducible rfl
    try simp only [qp, qn]
    refine qv (i := 11) (d := some 90) (v := ?_) rfl rfl (by kernel_rfl) hPQ (fun u hu => ?_) hHeld ?_
    rotate_left 1
    · go_simp; try with_reducible rfl
    try simp only [qp, qn]
    refine qv (i := 12) (d := some 91) (v := ?_) rfl rfl (by kernel_rfl) hPQ (fun u hu => ?_) hHeld ?_
    rotate_left 1
    · go_simp; try with_reducible rfl
    try simp only [qp, qn]
    refine qv (i := 13) (d := some 92) (v := ?_) rfl rfl (by kernel_rfl) hPQ (fun u hu => ?_) hHeld ?_
    rotate_left 1
    · go_simp; try with_reducible rfl
    try simp only [qp, qn]
    refine qv (i := 14) (d := some 93) (v := ?_) rfl rfl (by kernel_rfl) hPQ (fun u hu => ?_) hHeld ?_
    rotate_left 1
    · go_simp; try with_reducible rfl
    try simp only [qp, qn]
    refine take_alloc (i := 15) (di := some 13) (z := #[.slice none 0 0, .slice none 0 0]) (T := 29) rfl rfl (by kernel_rfl) rfl (by go_simp; try with_reducible rfl) (fun w3 hb => hHeld.trans (hb.mono hHeld.size)) ?_; intro t_ w3 hg hB hb hHeld; try simp only [qp, qn]
    refine relist (L' := #[true, true, true, true, true, true, true, true, true, true, true, true, true, true, true, true, false, false, false, false]) (by kernel_rfl) ?_; exact hC t_ w3 hg hB hb hHeld
   rintro ⟨Au, cu, Ad, cd⟩ t_ w6 hR6 hg6 hB6 hb6 hHeld; have hye : yd.heap.size <= t_ := Nat.le_trans hYE.out hg6; refine take_do (j := 16) (d := some 12) (v := .int .i64 15) (w2 := w6) rfl rfl (by kernel_rfl) rfl (Or.inl (by go_simp; try with_reducible rfl)) hHeld ?_; try simp only [qp, qn]
   refine take_store_part2 (j := 17) rfl rfl (by kernel_rfl) rfl 29 _ _ rfl t_ 0 29 [] [.slice none 0 0, .slice none 0 0] [] [.slice Au 32 cu, .slice Ad 32 cd] rfl rfl hB6 rfl rfl infoPr2 (by simp [Value.oneCell']) (fun u _ hu => hHeld.grown hu hHeld.size (fun k hk => by cases hk; exact hye)) (fun w7 E7 G7 => ?_); rw [List.append_nil, List.nil_append] at E7; try simp only [qp, qn]
   have hH7 := hHeld.grown G7 hHeld.size (fun k hk => by cases hk; exact hye); refine take_do (j := 18) (d := some 14) (v := .int .i64 0) (w2 := w7) rfl rfl (by kernel_rfl) rfl (Or.inl (by go_simp; try with_reducible rfl)) hH7 ?_; try simp only [qp, qn]
   refine take_do (j := 19) (d := some 15) (v := .int .i64 0) (w2 := w7) rfl rfl (by kernel_rfl) rfl (Or.inl (by go_simp; try with_reducible rfl)) hH7 ?_; try simp only [qp, qn]
   refine wpAnyH_done (by kernel_rfl) ?_ _; have BT := qq E7; have HU := qq (hR6.1.kept G7 (off_block hR6.1 hB6 rfl)); have HD := qq (hR6.2.kept G7 (off_block hR6.2 hB6 rfl)); have RW := qt RW hH7; have BG := qs BG hH7; have HF1 := qs HF1 hH7; have hcI := qq (cell_stays hH7 hcI.out); clear hR6 hg6 hB6 hb6 hHeld hye E7 G7 hH7 hcA hcY HY; have ku := BT.out.cell 0; have HPO := qq (HOPN.out w7 _ _ HU.out (HQ0.out.stays RW.out))
   go_wp2_with fail
   refine HPO.out.mono ?_; rintro e y7 ⟨A2, m2, c2, A3, m3, c3, rfl, hF2, _, hb⟩; rw [HPAD.out] at hF2; have HF2 := qq hF2; have BG := qs BG hb; have BT := qs BT hb; have HF1 := qs HF1 hb; have HD := qs HD hb; have HU := qs HU hb; have RW := qt RW hb; have hcI := qq (cell_stays hb hcI.out); have hF2le := hF2.le; have hF2cap := hF2.cap; clear hb hF2 ku HPO; unfold pkA askH
   go_upto_region 10 with (refine wpList_store_part rfl 51 _ _ rfl y7.heap.size 0 51 [] [.int .i64 0, .int .i64 0, .int .i64 0, .int .i64 0, .int .i64 0, .int .i64 0, .int .u32 0, .int .u32 0, .int .u32 0, .int .u64 0, .int .u64 0, .int .u64 0, .int .u64 0, .slice none 0 0, .slice none 0 0, .bool false] [] [.int .i64 0, .int .i64 4, .int .i64 3, .int .i64 0, .int .i64 6, .int .i64 0, .int .u32 0, .int .u32 0, .int .u32 0, .int .u64 0, .int .u64 0, .int .u64 0, .int .u64 (t : Int), .slice A2 m2 c2, .slice A3 m3 c3, .bool true] rfl rfl (Blk.new _ _ _) rfl rfl infoPk (by simp [Value.oneCell']) ?_; intro y8 D9 G; have G := below_new_store G; rw [List.append_nil, List.nil_append] at D9)
   obtain ⟨p2_, ep2⟩ : ∃ p2_, p2_ = y7.heap.size := ⟨_, rfl⟩; rw [<- ep2] at D9 ⊢; have BQ := qq D9; have BG := qs BG G; have BT := qs BT G; have HF1 := qs HF1 G; have HF2 := qs HF2 G; have HU := qs HU G; have HD := qs HD G; have hcI := qq (cell_stays G hcI.out); have RW := qt RW G; have hm2 : m2 = n + 2 := by rw [<- HF2.out.len, hFS, qFs_length]; omega
   have HM2 := qq hm2; have hm10 : m2 <= 10 := by omega
   clear G D9 ep2 hm2; go_wp2
   go_loopw [18, 19] (fun s i wr => ∃ (k co : Nat) (AO : Option Addr), k <= n + 1 ∧ i = .int .i64 k ∧ s = .slice AO k co ∧ Hid (OwnItems 2 encFld Prod.snd 97 wr y8.heap.size AO k co (ckF (mkL kid key up dn z k))) ∧ Below y8.heap.size y8 wr) (fun _ i _ => n + 1 - (intOf i).toNat)
   case atStart => exact ⟨0, 0, none, Nat.zero_le _, rfl, rfl, OwnItems.nil _ _, Below.refl _ _⟩
   case round =>
    obtain ⟨k, co, AO, hk, rfl, rfl, HOW, hbr⟩ := hrel; have HBR := qq hbr; have kq13 := (BQ.out.stays hbr).cell 13; have HFD := qq (find_any A2 m2 c2 FQ 772 wr (HF2.out.stays hbr) (by omega)); clear hbr
    go_wp2_with fail
    refine HFD.out.mono ?_; rintro e y9 ⟨AK, mK, cK, rfl, hK9, hb⟩; have hmK : mK = n := by rw [<- hK9.len, HM2.out]; exact f772
    have HKC := qq hK9; have HOW := qs HOW hb; have HBR := qt HBR hb; subst hmK; clear hb hK9 HFD kq13
    by_cases hkn : k <= mK
    · have hki : (k : Int) <= (mK : Int) := by omega
      obtain ⟨q, hq⟩ : ∃ q, z + k = q := ⟨_, rfl⟩; have hq9 : q <= 2000000 := by omega
      have wQ : IntKind.i64.wrap (q : Int) = (q : Int) := IntWalk.i64_in _ (by omega); have wQ2 : (z : Int) + (k : Int) = (q : Int) := by omega
      have HQZ := qq hq; have BGr := qq (BG.out.stays HBR.out); have BTr := qq (BT.out.stays HBR.out); have HUr := qq (HU.out.stays HBR.out); have HDr := qq (HD.out.stays HBR.out); have HRr := qq (HR0.out.stays (RW.out.trans (HBR.out.mono RW.out.size))); clear hq hkn
      go_wp2_with fail
      refine mono_start (fun _ => True) [pv (.agg #[.slice AR nR cR]), pv (.int .i64 15), pv (.agg #[.slice Au 32 cu, .slice Ad 32 cd]), pv (.int .i64 (z : Int)), pv (.int .i64 (k : Int)), pv (.int .i64 (q : Int)), mv (fun v u => ∃ A' c', v = .slice A' 16 c' ∧ Bytes u A' 16 c' (wbytesL q 16)), mv (fun v u => ∃ A' c', v = .tuple #[.slice A' 104 c', .int .i64 0] ∧ Bytes u A' 104 c' (cookB kid key (wbytesL q 16) 15 up dn) ∧ Fresh y9.heap.size A'), mv (fun v u => ∃ A' c', v = .tuple #[.slice A' 104 c', .int .i64 0] ∧ Bytes u A' 104 c' (cookB kid key (wbytesL q 16) 15 up dn) ∧ Fresh y9.heap.size A')] (by kernel_rfl) (by kernel_rfl) (fun OPS AV AL K w0 hO hA hL hK hb0 hz => ?_); refine step_pg (d := (some 114)) (hO.out 0 _ rfl) rfl rfl (fun wq hw gt => ?_) ?_
      · have hx : Below y9.heap.size y9 wq := hb0.trans (hw.mono hb0.size); exact exec_load_part 25 _ rfl g_ 0 25 [] [.slice AR nR cR] [] _ rfl (BGr.out.stays hx) rfl Tryz.underlying25 rfl infoRing
      try simp only [qp, qn]
      refine step_pv (d := (some 115)) (hO.out 1 _ rfl) rfl rfl (fun wq hw => ?_) ?_
      · clear hO hA hL hK
        go_simp; try first | with_reducible rfl | assumption | decide
      try simp only [qp, qn]
      refine step_pg (d := (some 116)) (hO.out 2 _ rfl) rfl rfl (fun wq hw gt => ?_) ?_
      · have hx : Below y9.heap.size y9 wq := hb0.trans (hw.mono hb0.size); exact exec_load_part 29 _ rfl t_ 0 29 [] [.slice Au 32 cu, .slice Ad 32 cd] [] _ rfl (BTr.out.stays hx) rfl Tryz.underlying29 rfl infoPr2
      try simp only [qp, qn]
      refine step_pv (d := (some 117)) (hO.out 3 _ rfl) rfl rfl (fun wq hw => ?_) ?_
      · clear hO hA hL hK
        go_simp; try first | with_reducible rfl | assumption | decide
      try simp only [qp, qn]
      refine step_pv (d := (some 118)) (hO.out 4 _ rfl) rfl rfl (fun wq hw => ?_) ?_
      · clear hO hA hL hK
        go_simp; try first | with_reducible rfl | assumption | decide
      try simp only [qp, qn]
      refine step_pv (d := (some 119)) (hO.out 5 _ rfl) rfl rfl (fun wq hw => ?_) ?_
      · clear hO hA hL hK
        go_simp; try first | with_reducible rfl | assumption | decide
      try simp only [qp, qn]
      refine step_mc (d := (some 120)) (hO.out 6 _ rfl) rfl rfl (fun wq hw gt => ?_) (fun v_z6 x_z6 => ?_)
      · have hx : Below y9.heap.size y9 wq := hb0.trans (hw.mono hb0.size); refine ⟨_, _, ?_, (wbytes_new q 16 _ (by omega) (by omega) (by decide)).mono (fun e q h => ?_)⟩
        · clear gt hO hA hL hK
          go_simp
        obtain ⟨A', c', rfl, h1, _, h2⟩ := h; exact ⟨_, rfl, ⟨A', c', rfl, h1⟩, h2⟩
      try simp only [qp, qn]
      refine step_mc (d := (some 121)) (hO.out 7 _ rfl) rfl rfl (fun wq hw gt => ?_) (fun v_z7 x_z7 => ?_)
      · have hx : Below y9.heap.size y9 wq := hb0.trans (hw.mono hb0.size); obtain ⟨⟨A', c', rfl, h1⟩, hb1⟩ := (gt 6 (hA.out 7 6 (by kernel_rfl))); refine ⟨_, _, ?_, (ckMake_any _ ks kid key rest HE.out Au cu up Ad cd dn A' c' _ _ (HRr.out.stays hx) HG.out (HUr.out.stays hx) (HDr.out.stays hx) (h1.stays hb1)).mono (fun e q h => ?_)⟩
        · clear gt hO hA hL hK
          go_simp
        obtain ⟨A9, c9, rfl, h2, h3, h4⟩ := h; exact ⟨_, rfl, ⟨A9, c9, rfl, h2, h3.more hx.size⟩, h4⟩
      try simp only [qp, qn]
      refine step_mv (d := (some 113)) (hO.out 8 _ rfl) rfl rfl (fun wq hw gt => ?_) (fun v_z8 x_z8 => ?_)
      · have hx : Below y9.heap.size y9 wq := hb0.trans (hw.mono hb0.size); obtain ⟨⟨A', c', rfl, h1, h2⟩, hb1⟩ := (gt 7 (hA.out 8 7 (by kernel_rfl))); refine ⟨_, _, ?_, ⟨A', c', rfl, h1.stays hb1, h2⟩, Below.refl _ _⟩; clear gt hO hA hL hK
        go_simp; try with_reducible rfl
      try simp only [qp, qn]
      refine fun wq hw gt => hK.out _ _ ?_
      obtain ⟨⟨A8, c8, rfl, hB8, hF8⟩, hb8⟩ := (gt 8 (hL.out 8 (by kernel_rfl))); have hx : Below y9.heap.size y9 wq := hb0.trans (hw.mono hb0.size); clear gt hO hA hL hK; refine qv (i := 9) (d := some 122) (v := .slice A8 104 c8) rfl rfl (by kernel_rfl) ?hPQ9 (fun u hu => ?_) trivial ?_
      case hPQ9 => (repeat (with_reducible first | refine PQ.then ?_ | refine PQ.block ?_)); exact fun _ _ d _ _ h => by cases d <;> exact h
      · go_simp; try with_reducible rfl
      try simp only [qp, qn]
      refine qv (i := 10) (d := some 123) (v := .int .i64 0) rfl rfl (by kernel_rfl) ?hPQ10 (fun u hu => ?_) trivial ?_
      case hPQ10 => (repeat (with_reducible first | refine PQ.then ?_ | refine PQ.block ?_)); exact fun _ _ d _ _ h => by cases d <;> exact h
      · go_simp; try with_reducible rfl
      try simp only [qp, qn]
      refine take_do (j := 11) (d := some 20) (v := .slice A8 104 c8) (w2 := wq) rfl rfl (by kernel_rfl) rfl (Or.inl (by go_simp; try with_reducible rfl)) trivial ?_; try simp only [qp, qn]
      refine take_do (j := 12) (d := some 21) (v := .int .i64 0) (w2 := wq) rfl rfl (by kernel_rfl) rfl (Or.inl (by go_simp; try with_reducible rfl)) trivial ?_; try simp only [qp, qn]
      refine wpAnyH_done (by kernel_rfl) ?_ _; have HOLT : Hid (∀ j, (Value.slice AO k co).ownBlock = some j -> j < y9.heap.size) := HOW.out.lt; have hx2 := hx.trans ((below_alloc1 wq (.cells #[.int .i64 516, .slice A8 104 c8] 97)).mono hx.size); have HB8 := qq ((hB8.stays hb8).stays (below_alloc1 wq (.cells #[.int .i64 516, .slice A8 104 c8] 97))); have HF8 := qq hF8; have HOX := qs HOW hx2; have HBX := qt HBR hx2; have hbz := HBX.out.size; have hk9 := HOX.out.cap; clear hx hx2 hw hz hb0 hb8 hB8 hF8 wQ wQ2 BGr BTr HUr HDr HRr
      go_wp2_with (at_builtin; refine append_items_at rfl _ _ 49 rfl i0 _ 32 Tryz.underlying49 hi hz0 hz1 hz2 rfl (by decide) rfl HOX.out rfl ((516, cookB kid key (wbytesL q 16) 15 up dn) : Int × List UInt8) rfl (rd_pair _ _ _ _) (by simp [encFld, Value.oneCell']) HB8.out (Off.fresh HF8.out HOLT.out) (by unfold maxLen; omega) (by omega) hbz ?_; intro A9 c9 w9 hown9 hg9 hl9; have HG9 := qq hg9; have HO9 := qq hown9; clear hg9 hl9 hown9)
      have R9 := qq (HBX.out.grown HG9.out HBX.out.size HOX.out.old); have HO9 : Hid (OwnItems 2 encFld Prod.snd 97 w9 y8.heap.size A9 (k + 1) c9 (ckF (mkL kid key up dn z (k + 1)))) := by rw [Hid, mkL_succ, HQZ.out]; exact HO9.out
      clear HG9 hbz; go_wp2
      go_roundw
      case rel => exact ⟨k + 1, c9, A9, by omega, by go_num, rfl, HO9.out, R9.out⟩
      case measure => simp [intOf]; omega
    · obtain ⟨ws, hws⟩ : ∃ ws, ws = y9 := ⟨_, rfl⟩; subst hws; have hkI : ¬ (k : Int) <= (mK : Int) := by omega
      have hk1 : k = mK + 1 := by omega
      have HK1 := qq hk1; have BG := qq (BG.out.stays HBR.out); have BT := qq (BT.out.stays HBR.out); have BQ := qq (BQ.out.stays HBR.out); have HF1 := qq (HF1.out.stays HBR.out); have HF2 := qq (HF2.out.stays HBR.out); have HU := qq (HU.out.stays HBR.out); have HD := qq (HD.out.stays HBR.out); have hcI := qq (cell_stays HBR.out hcI.out); have RW := qq (RW.out.trans (HBR.out.mono RW.out.size)); have HSF := qq HOW.out.flds; clear hkn hk hk1 HOW HBR HKC
      go_wp2_with (refine wpList_load_part rfl 48 _ rfl p2_ 0 51 [] [.int .i64 0, .int .i64 4, .int .i64 3, .int .i64 0, .int .i64 6, .int .i64 0, .int .u32 0, .int .u32 0, .int .u32 0, .int .u64 0, .int .u64 0, .int .u64 0, .int .u64 (t : Int)] [.slice A2 m2 c2, .slice A3 m3 c3, .bool true] _ rfl BQ.out rfl Tryz.underlying48 rfl infoHdr ?_)
      refine (reply_ok 0 4 3 0 6 0 0 0 0 0 0 0 t 1 7 8 _ (by decide) rfl (by decide) (by decide)).mono ?_; rintro e v1 ⟨rfl, hb⟩; have BT := qs BT hb; have BQ := qs BQ hb; have HF2 := qs HF2 hb; have HD := qs HD hb; have HSF := qs HSF hb; have hcI := qq (cell_stays hb hcI.out); have RW := qt RW hb; clear hb BG HF1 HU
      go_upto_region 21 with (refine wpList_store_part rfl 48 _ _ rfl v1.heap.size 0 48 [] [.int .i64 0, .int .i64 0, .int .i64 0, .int .i64 0, .int .i64 0, .int .i64 0, .int .u32 0, .int .u32 0, .int .u32 0, .int .u64 0, .int .u64 0, .int .u64 0, .int .u64 0] [] [.int .i64 0, .int .i64 4, .int .i64 4, .int .i64 1, .int .i64 6, .int .i64 (-20), .int .u32 0, .int .u32 0, .int .u32 0, .int .u64 0, .int .u64 (t : Int), .int .u64 7, .int .u64 8] rfl rfl (Blk.new _ _ _) rfl rfl infoHdr (by simp [Value.oneCell']) ?_; intro v2 D9 G; have G := below_new_store G; rw [List.append_nil, List.nil_append] at D9)
      obtain ⟨h_, eh⟩ : ∃ h_, h_ = v1.heap.size := ⟨_, rfl⟩; rw [<- eh] at D9 ⊢; have BH := qq D9; have BT := qs BT G; have BQ := qs BQ G; have HF2 := qs HF2 G; have HD := qs HD G; have HSF := qs HSF G; have hcI := qq (cell_stays G hcI.out); have RW := qt RW G; clear G D9 eh; have hmx : 0 < m2 := by have := HM2.out; omega
      obtain ⟨b2, o2, A6, n6, c6, rfl, hcB, hcC, hyu⟩ := HF2.out.at_ (i := 0) hmx
      have hcB : v2.cell? ⟨b2, o2, none⟩ = some (.int .i64 260) := by
       have e : fldT FQ 0 = 260 := by rw [hFS]; rfl
       rw [e] at hcB; simpa using hcB
      have hcC : v2.cell? ⟨b2, o2 + 1, none⟩ = some (.slice A6 n6 c6) := by simpa using hcC
      have hyu : Bytes v2 A6 n6 c6 uq := by
       have e : fldD FQ 0 = uq := by rw [hFS]; rfl
       rw [e] at hyu; exact hyu
      obtain rfl : n6 = 32 := by rw [<- hyu.len]; exact huq
      have hcB := qq hcB; have hcC := qq hcC; have HYU := qq hyu; clear hyu; have hm0 : ¬ (m2 : Int) <= 0 := by omega
      have hm0n : ¬ m2 <= 0 := by omega
      have hm0m : ¬ m2 = 0 := by omega
      obtain ⟨q, hq⟩ : ∃ q, z + 100 = q := ⟨_, rfl⟩; have hq9 : q <= 2000000 := by omega
      have wQ : IntKind.i64.wrap (q : Int) = (q : Int) := IntWalk.i64_in _ (by omega); have wQ2 : (z : Int) + 100 = (q : Int) := by omega
      have HQZ := qq hq.symm; have hck : ∀ x ∈ mkL kid key up dn z k, x.length = 104 := mkL_each kid key up dn z k hup hdn; have hk8 : k <= 8 := by have := HK1.out; omega
      obtain ⟨NN, hNN⟩ : ∃ NN, 88 + totX [(260, uq)] + totX (ckF (mkL kid key up dn z k)) = NN := ⟨_, rfl⟩; have HPR := qq (fun (W : World) (A9 : Option Addr) (c9 : Nat) (A8 : Option Addr) (c8 : Nat) (hW : Below v2.heap.size v2 W) (h1 : FldL W A9 1 c9 [(260, uq)]) (h2 : Bytes W A8 16 c8 (wbytesL q 16)) =>
       protect_any (rpH t) (rpH_ok t ht) Ad cd dn A9 1 c9 [(260, uq)] AO k co (ckF (mkL kid key up dn z k)) false A8 c8 (wbytesL q 16) W (HD.out.stays hW) h1 (HSF.out.stays hW) h2 (err_id uq huq) (err_ck _ hck) (by decide) (by omega) (by rw [tot_id uq huq, tot_ck _ hck, mkL_length]; omega) (find_id uq))
      rw [hNN] at HPR; clear hq hck hNN HF2 HM2 hmx; refine mono_start (fun _ => True) [pv (.pointer (some ⟨t_, 1, none⟩)), pv (.slice Ad 32 cd), pv (.agg #[.int .i64 0, .int .i64 4, .int .i64 4, .int .i64 1, .int .i64 6, .int .i64 (-20), .int .u32 0, .int .u32 0, .int .u32 0, .int .u64 0, .int .u64 (t : Int), .int .u64 7, .int .u64 8]), pv (.pointer (some ⟨p2_, 13, none⟩)), pv (.slice (some ⟨b2, o2, none⟩) m2 c2), pv (.slice (some ⟨bJ, oJ, none⟩) 1 cJ), pv (.pointer (some ⟨bJ, oJ, none⟩)), pv (.int .i64 0), pv (.pointer (some ⟨b2, o2, none⟩)), pv (.agg #[.int .i64 260, .slice A6 32 c6]), mv (fun v u => ∃ A9 c9, v = .slice A9 1 c9 ∧ FldL u A9 1 c9 [(260, uq)]), pv (.slice AO k co), mv (fun v u => ∃ A9 c9, v = .agg #[.int .i64 0, .int .i64 4, .int .i64 4, .int .i64 1, .int .i64 6, .int .i64 (-20), .int .u32 0, .int .u32 0, .int .u32 0, .int .u64 0, .int .u64 (t : Int), .int .u64 7, .int .u64 8, .slice A9 1 c9, .slice AO k co, .bool false] ∧ FldL u A9 1 c9 [(260, uq)]), pv (.int .i64 (z : Int)), pv (.int .i64 (q : Int)), mv (fun v u => ∃ A' c', v = .slice A' 16 c' ∧ Bytes u A' 16 c' (wbytesL q 16)), mv (fun v u => ∃ A' c', v = .tuple #[.slice A' NN c', .int .i64 0] ∧ Bytes u A' NN c' (protB dn (rpH t) [(260, uq)] (ckF (mkL kid key up dn z k)) (wbytesL q 16))), mv (fun v u => ∃ A' c', v = .tuple #[.slice A' NN c', .int .i64 0] ∧ Bytes u A' NN c' (protB dn (rpH t) [(260, uq)] (ckF (mkL kid key up dn z k)) (wbytesL q 16)))] (by kernel_rfl) (by kernel_rfl) (fun OPS AV AL K w0 hO hA hL hK hb0 hz => ?_); refine step_pv (d := (some 138)) (hO.out 0 _ rfl) rfl rfl (fun wq hw => ?_) ?_
      · clear hO hA hL hK
        go_simp; try first | with_reducible rfl | assumption | decide
      try simp only [qp, qn]
      refine step_pg (d := (some 139)) (hO.out 1 _ rfl) rfl rfl (fun wq hw gt => ?_) ?_
      · have hx : Below v2.heap.size v2 wq := hb0.trans (hw.mono hb0.size); have k1 := (BT.out.stays hx).cell 1; clear gt hO hA hL hK
        go_simp; try first | with_reducible rfl | assumption | decide
      try simp only [qp, qn]
      refine step_pg (d := (some 140)) (hO.out 2 _ rfl) rfl rfl (fun wq hw gt => ?_) ?_
      · have hx : Below v2.heap.size v2 wq := hb0.trans (hw.mono hb0.size); exact exec_load_part 48 _ rfl h_ 0 48 [] [.int .i64 0, .int .i64 4, .int .i64 4, .int .i64 1, .int .i64 6, .int .i64 (-20), .int .u32 0, .int .u32 0, .int .u32 0, .int .u64 0, .int .u64 (t : Int), .int .u64 7, .int .u64 8] [] _ rfl (BH.out.stays hx) rfl Tryz.underlying48 rfl infoHdr
      try simp only [qp, qn]
      refine step_pv (d := (some 141)) (hO.out 3 _ rfl) rfl rfl (fun wq hw => ?_) ?_
      · clear hO hA hL hK
        go_simp; try first | with_reducible rfl | assumption | decide
      try simp only [qp, qn]
      refine step_pg (d := (some 142)) (hO.out 4 _ rfl) rfl rfl (fun wq hw gt => ?_) ?_
      · have hx : Below v2.heap.size v2 wq := hb0.trans (hw.mono hb0.size); have k1 := (BQ.out.stays hx).cell 13; clear gt hO hA hL hK
        go_simp; try first | with_reducible rfl | assumption | decide
      try simp only [qp, qn]
      refine step_pv (d := (some 143)) (hO.out 5 _ rfl) rfl rfl (fun wq hw => ?_) ?_
      · clear hO hA hL hK
        go_simp; try first | with_reducible rfl | assumption | decide
      try simp only [qp, qn]
      refine step_pv (d := (some 144)) (hO.out 6 _ rfl) rfl rfl (fun wq hw => ?_) ?_
      · clear hO hA hL hK
        go_simp; try first | with_reducible rfl | assumption | decide
      try simp only [qp, qn]
      refine step_pg (d := (some 145)) (hO.out 7 _ rfl) rfl rfl (fun wq hw gt => ?_) ?_
      · have hx : Below v2.heap.size v2 wq := hb0.trans (hw.mono hb0.size); have k1 := cell_stays hx hcI.out; clear gt hO hA hL hK
        go_simp; try first | with_reducible rfl | assumption | decide
      try simp only [qp, qn]
      refine step_pv (d := (some 146)) (hO.out 8 _ rfl) rfl rfl (fun wq hw => ?_) ?_
      · clear hO hA hL hK
        go_simp; try first | with_reducible rfl | assumption | decide
      try simp only [qp, qn]
      refine step_pg (d := (some 147)) (hO.out 9 _ rfl) rfl rfl (fun wq hw gt => ?_) ?_
      · have hx : Below v2.heap.size v2 wq := hb0.trans (hw.mono hb0.size); exact exec_load_mid 97 _ rfl b2 o2 rfl [.int .i64 260, .slice A6 32 c6] _ (two_range (cell_stays hx hcB.out) (cell_stays hx hcC.out)) Tryz.underlying97 rfl infoFl2
      try simp only [qp, qn]
      refine step_mv (d := (some 148)) (hO.out 10 _ rfl) rfl rfl (fun wq hw gt => ?_) (fun v_y10 x_y10 => ?_)
      · have hx : Below v2.heap.size v2 wq := hb0.trans (hw.mono hb0.size); refine ⟨.slice (some ⟨wq.heap.size, 0, none⟩) 1 1, wq.alloc (.cells #[.int .i64 260, .slice A6 32 c6] 97), ?_, ⟨_, _, rfl, FldL.one wq (260, uq) A6 32 c6 _ (HYU.out.stays hx)⟩, below_alloc1 _ _⟩; clear gt hO hA hL hK
        go_simp; try with_reducible rfl
      try simp only [qp, qn]
      refine step_pv (d := (some 149)) (hO.out 11 _ rfl) rfl rfl (fun wq hw => ?_) ?_
      · clear hO hA hL hK
        go_simp; try first | with_reducible rfl | assumption | decide
      try simp only [qp, qn]
      refine step_mv (d := (some 150)) (hO.out 12 _ rfl) rfl rfl (fun wq hw gt => ?_) (fun v_y12 x_y12 => ?_)
      · have hx : Below v2.heap.size v2 wq := hb0.trans (hw.mono hb0.size); obtain ⟨⟨A9, c9, rfl, h1⟩, hb1⟩ := (gt 10 (hA.out 12 10 (by kernel_rfl))); refine ⟨.agg #[.int .i64 0, .int .i64 4, .int .i64 4, .int .i64 1, .int .i64 6, .int .i64 (-20), .int .u32 0, .int .u32 0, .int .u32 0, .int .u64 0, .int .u64 (t : Int), .int .u64 7, .int .u64 8, .slice A9 1 c9, .slice AO k co, .bool false], wq, ?_, ⟨A9, c9, rfl, h1.stays hb1⟩, Below.refl _ _⟩; clear gt hO hA hL hK
        go_simp; try with_reducible rfl
      try simp only [qp, qn]
      refine step_pv (d := (some 151)) (hO.out 13 _ rfl) rfl rfl (fun wq hw => ?_) ?_
      · clear hO hA hL hK
        go_simp; try first | with_reducible rfl | assumption | decide
      try simp only [qp, qn]
      refine step_pv (d := (some 152)) (hO.out 14 _ rfl) rfl rfl (fun wq hw => ?_) ?_
      · clear hO hA hL hK
        go_simp; try first | with_reducible rfl | assumption | decide
      try simp only [qp, qn]
      refine step_mc (d := (some 153)) (hO.out 15 _ rfl) rfl rfl (fun wq hw gt => ?_) (fun v_y15 x_y15 => ?_)
      · have hx : Below v2.heap.size v2 wq := hb0.trans (hw.mono hb0.size); refine ⟨_, _, ?_, (wbytes_new q 16 _ (by omega) (by omega) (by decide)).mono (fun e q h => ?_)⟩
        · clear gt hO hA hL hK
          go_simp
        obtain ⟨A', c', rfl, h1, _, h2⟩ := h; exact ⟨_, rfl, ⟨A', c', rfl, h1⟩, h2⟩
      try simp only [qp, qn]
      refine step_mc (d := (some 154)) (hO.out 16 _ rfl) rfl rfl (fun wq hw gt => ?_) (fun v_y16 x_y16 => ?_)
      · have hx : Below v2.heap.size v2 wq := hb0.trans (hw.mono hb0.size); obtain ⟨⟨A9, c9, rfl, h1⟩, hb1⟩ := (gt 12 (hA.out 16 12 (by kernel_rfl))); obtain ⟨⟨A8, c8, rfl, h2⟩, hb2⟩ := (gt 15 (hA.out 16 15 (by kernel_rfl))); refine ⟨_, _, ?_, (HPR.out wq A9 c9 A8 c8 hx (h1.stays hb1) (h2.stays hb2)).mono (fun e q h => ?_)⟩
        · clear gt hO hA hL hK
          go_simp; try rfl
        obtain ⟨A', c', rfl, h3, h4⟩ := h; exact ⟨_, rfl, ⟨A', c', rfl, h3⟩, h4⟩
      try simp only [qp, qn]
      refine step_mv (d := (some 137)) (hO.out 17 _ rfl) rfl rfl (fun wq hw gt => ?_) (fun v_y17 x_y17 => ?_)
      · have hx : Below v2.heap.size v2 wq := hb0.trans (hw.mono hb0.size); obtain ⟨⟨A', c', rfl, h1⟩, hb1⟩ := (gt 16 (hA.out 17 16 (by kernel_rfl))); refine ⟨_, _, ?_, ⟨A', c', rfl, h1.stays hb1⟩, Below.refl _ _⟩; clear gt hO hA hL hK
        go_simp; try with_reducible rfl
      try simp only [qp, qn]
      refine fun wq hw gt => hK.out _ _ ?_
      obtain ⟨⟨A8, c8, rfl, hB8⟩, hb8⟩ := (gt 17 (hL.out 17 (by kernel_rfl))); have hx : Below v2.heap.size v2 wq := hb0.trans (hw.mono hb0.size); clear gt hO hA hL hK; refine qv (i := 18) (d := some 155) (v := .slice A8 NN c8) rfl rfl (by kernel_rfl) ?hPQ18 (fun u hu => ?_) trivial ?_
      case hPQ18 => (repeat (with_reducible first | refine PQ.then ?_ | refine PQ.block ?_)); exact fun _ _ d _ _ h => by cases d <;> exact h
      · go_simp; try with_reducible rfl
      try simp only [qp, qn]
      refine qv (i := 19) (d := some 156) (v := .int .i64 0) rfl rfl (by kernel_rfl) ?hPQ19 (fun u hu => ?_) trivial ?_
      case hPQ19 => (repeat (with_reducible first | refine PQ.then ?_ | refine PQ.block ?_)); exact fun _ _ d _ _ h => by cases d <;> exact h
      · go_simp; try with_reducible rfl
      try simp only [qp, qn]
      refine take_do (j := 20) (d := some 24) (v := .slice A8 NN c8) (w2 := wq) rfl rfl (by kernel_rfl) rfl (Or.inl (by go_simp; try with_reducible rfl)) trivial ?_; try simp only [qp, qn]
      refine take_do (j := 21) (d := some 25) (v := .int .i64 0) (w2 := wq) rfl rfl (by kernel_rfl) rfl (Or.inl (by go_simp; try with_reducible rfl)) trivial ?_; try simp only [qp, qn]
      refine wpAnyH_done (by kernel_rfl) ?_ _; have hB9 := hB8.stays hb8; have hR9 := RW.out.trans (hx.mono RW.out.size); clear hw hb0 hb8 hB8 HPR; rw [HQZ.out, HK1.out] at hB9; go_wp2; go_ret2; exact ⟨.inl ⟨HE.out, _, _, _, rfl, hB9⟩, hR9⟩
 · have HNK := qq hnk; clear hnk; refine take_fork (α := Int × Int) (i := 15) (j := 9) (di := some 13) (dj := some 89) (val := fun x => .tuple #[.int .i64 x.1, .agg #[.slice none 0 0, .slice none 0 0], .int .i64 x.2, .int .i64 5]) (R := fun _ _ => True) (z := #[.slice none 0 0, .slice none 0 0]) (T := 29) (C := ?D) rfl rfl rfl rfl (by kernel_rfl) (by kernel_rfl) (by kernel_rfl) rfl rfl ?gal (fun u hu => (ckOpen_no2 _ ks kid hkid key n0 up dn hn0 hup hdn A5 c5 u (HR0.out.stays (RW.out.trans (hu.mono RW.out.size))) HG.out (HY.out.stays hu) HNK.out).mono (fun e q h => by obtain ⟨⟨x, y, h1⟩, h4⟩ := h; exact ⟨(x, y), h1, trivial, h4⟩)) ?gr ?gr2 hHeld (fun u u2 hu hb => hu.trans (hb.mono hu.size)) ?gi ?gj (fun _ _ _ _ _ => trivial) ?g6
   case gal => go_simp; try with_reducible rfl
   case gr => go_simp
   case gr2 => intro v w; go_simp
   case gi =>
    intro x t_ w6 hHeld hC; try simp only [qp, qn]
    refine qv (i := 10) (d := some 79) (v := ?_) rfl rfl (by kernel_rfl) hPQ (fun u hu => ?_) hHeld ?_
    rotate_left 1
    · go_simp; try with_reducible rfl
    try simp only [qp, qn]
    refine qv (i := 11) (d := some 90) (v := ?_) rfl rfl (by kernel_rfl) hPQ (fun u hu => ?_) hHeld ?_
    rotate_left 1
    · go_simp; try with_reducible rfl
    try simp only [qp, qn]
    refine qv (i := 12) (d := some 91) (v := ?_) rfl rfl (by kernel_rfl) hPQ (fun u hu => ?_) hHeld ?_
    rotate_left 1
    · go_simp; try with_reducible rfl
    try simp only [qp, qn]
    refine qv (i := 13) (d := some 92) (v := ?_) rfl rfl (by kernel_rfl) hPQ (fun u hu => ?_) hHeld ?_
    rotate_left 1
    · go_simp; try with_reducible rfl
    try simp only [qp, qn]
    refine qv (i := 14) (d := some 93) (v := ?_) rfl rfl (by kernel_rfl) hPQ (fun u hu => ?_) hHeld ?_
    rotate_left 1
    · go_simp; try with_reducible rfl
    try simp only [qp, qn]
    refine relist (L' := #[true, true, true, true, true, true, true, true, true, true, true, true, true, true, true, true, false, false, false, false]) (by kernel_rfl) ?_; exact hC
   case gj =>
    intro x w6 hHeld hC; try simp only [qp, qn]
    refine qv (i := 10) (d := some 79) (v := ?_) rfl rfl (by kernel_rfl) hPQ (fun u hu => ?_) hHeld ?_
    rotate_left 1
    · go_simp; try with_reducible rfl
    try simp only [qp, qn]
    refine qv (i := 11) (d := some 90) (v := ?_) rfl rfl (by kernel_rfl) hPQ (fun u hu => ?_) hHeld ?_
    rotate_left 1
    · go_simp; try with_reducible rfl
    try simp only [qp, qn]
    refine qv (i := 12) (d := some 91) (v := ?_) rfl rfl (by kernel_rfl) hPQ (fun u hu => ?_) hHeld ?_
    rotate_left 1
    · go_simp; try with_reducible rfl
    try simp only [qp, qn]
    refine qv (i := 13) (d := some 92) (v := ?_) rfl rfl (by kernel_rfl) hPQ (fun u hu => ?_) hHeld ?_
    rotate_left 1
    · go_simp; try with_reducible rfl
    try simp only [qp, qn]
    refine qv (i := 14) (d := some 93) (v := ?_) rfl rfl (by kernel_rfl) hPQ (fun u hu => ?_) hHeld ?_
    rotate_left 1
    · go_simp; try with_reducible rfl
    try simp only [qp, qn]
    refine take_alloc (i := 15) (di := some 13) (z := #[.slice none 0 0, .slice none 0 0]) (T := 29) rfl rfl (by kernel_rfl) rfl (by go_simp; try with_reducible rfl) (fun w3 hb => hHeld.trans (hb.mono hHeld.size)) ?_; intro t_ w3 hg hB hb hHeld; try simp only [qp, qn]
    refine relist (L' := #[true, true, true, true, true, true, true, true, true, true, true, true, true, true, true, true, false, false, false, false]) (by kernel_rfl) ?_; exact hC t_ w3 hg hB hb hHeld
   rintro ⟨x1, x2⟩ t_ w6 hR6 hg6 hB6 hb6 hHeld; have hye : yd.heap.size <= t_ := Nat.le_trans hYE.out hg6; refine take_do (j := 16) (d := some 12) (v := .int .i64 x1) (w2 := w6) rfl rfl (by kernel_rfl) rfl (Or.inl (by go_simp; try with_reducible rfl)) hHeld ?_; try simp only [qp, qn]
   refine take_store_part2 (j := 17) rfl rfl (by kernel_rfl) rfl 29 _ _ rfl t_ 0 29 [] [.slice none 0 0, .slice none 0 0] [] [.slice none 0 0, .slice none 0 0] rfl rfl hB6 rfl rfl infoPr2 (by simp [Value.oneCell']) (fun u _ hu => hHeld.grown hu hHeld.size (fun k hk => by cases hk; exact hye)) (fun w7 E7 G7 => ?_); try simp only [qp, qn]
   have hH7 := hHeld.grown G7 hHeld.size (fun k hk => by cases hk; exact hye); refine take_do (j := 18) (d := some 14) (v := .int .i64 x2) (w2 := w7) rfl rfl (by kernel_rfl) rfl (Or.inl (by go_simp; try with_reducible rfl)) hH7 ?_; try simp only [qp, qn]
   refine take_do (j := 19) (d := some 15) (v := .int .i64 5) (w2 := w7) rfl rfl (by kernel_rfl) rfl (Or.inl (by go_simp; try with_reducible rfl)) hH7 ?_; try simp only [qp, qn]
   refine wpAnyH_done (by kernel_rfl) ?_ _; have RW := RW.out.trans (hH7.mono RW.out.size); go_wp2; go_ret2; exact ⟨.inr ⟨HNK.out, rfl⟩, RW⟩
def kUp (z : Nat) : List UInt8 := keyP (endS z) 0 15 0
def kDn (z : Nat) : List UInt8 := keyP (endS z) 0 15 1
theorem kUp_length (z : Nat) : (kUp z).length = 32 := expandL_length _ _ _
theorem kDn_length (z : Nat) : (kDn z).length = 32 := expandL_length _ _ _
def cksL (kid : Nat) (key : List UInt8) (z nn : Nat) : List (List UInt8) := (nonL z nn).map fun x => cookB kid key x 15 (kUp z) (kDn z)
theorem nonL_each (z nn : Nat) : ∀ x ∈ nonL z nn, x.length = 16 := by
 intro x hx; unfold nonL at hx; obtain ⟨i, _, rfl⟩ := List.mem_map.1 hx; exact wbytesL_length _ _
theorem cksL_each (kid : Nat) (key : List UInt8) (z nn : Nat) : ∀ x ∈ cksL kid key z nn, x.length = 104 := by
 intro x hx; unfold cksL at hx; obtain ⟨y, hy, rfl⟩ := List.mem_map.1 hx; exact cookB_length _ _ _ _ _ _ (nonL_each z nn y hy) (kUp_length z) (kDn_length z)
theorem ckR_flat : ∀ cs : List (List UInt8), (∀ x ∈ cs, x.length = 104) -> ((ckR cs).flatMap encR).length = 108 * cs.length
 | [], _ => rfl
 | c :: cs, h => by
  have ih := ckR_flat cs fun x hx => h x (List.mem_cons_of_mem _ hx)
  have hc := h c List.mem_cons_self; have e : ckR (c :: cs) = (false, 5, c) :: ckR cs := rfl; rw [e, List.flatMap_cons, List.length_append, encR_length, ih, List.length_cons]
  show 4 + c.length + _ = _
  omega
theorem resR_flat (p : Nat) (cs : List (List UInt8)) (h : ∀ x ∈ cs, x.length = 104) (hl : cs.length <= 8) : ((resR p cs).flatMap encR).length <= 16000 := by
 unfold resR; rw [List.flatMap_append, List.flatMap_append, List.length_append, List.length_append, ckR_flat cs h]; simp only [List.flatMap_cons, List.flatMap_nil, List.length_append, encR_length, putL_length, List.length_nil]; omega
theorem agree_ok (z nn : Nat) (hz : z <= 1000) (hn1 : 1 <= nn) (hn8 : nn <= 2) (rg : Value) (ks : List (Int × List UInt8)) (kid : Nat) (key : List UInt8) (rest : List (Int × List UInt8)) (w : World) (hr : RingV w rg ks) (hg : RingG ks) (he : ks = ((kid : Int), key) :: rest) :
    Calls Tryz.prog 7 #[.int .i64 z, .int .i64 nn, rg] w fun e w' => ∃ K1 K2 A3 c3, e = .returned (.tuple #[.agg #[.int .i64 0, .int .i64 15, .slice K1 32 32, .slice K2 32 32, .slice A3 nn c3, .string ⟨#[]⟩, .int .i64 0], .bool true]) ∧ Bytes w' K1 32 32 (kUp z) ∧ Bytes w' K2 32 32 (kDn z) ∧ Lists w' A3 nn c3 (cksL kid key z nn) ∧ Below w.heap.size w w' := by
 have heq : rspR 0 (cooR kid key (keyP (endS z) 0 15 0) (keyP (endS z) 0 15 1) (nonL z nn)) = resR 0 ((nonL z nn).map fun x => cookB kid key x 15 (keyP (endS z) 0 15 0) (keyP (endS z) 0 15 1)) := by
  unfold rspR agrR resR ckR cooR; rw [List.map_map]; rfl
 refine agree_any z nn hz hn1 hn8 rg ks kid key rest w hr hg he ?_ ?_ heq (cksL_each kid key z nn) (nonL_each z nn)
 · rw [heq]; exact resR_flat 0 _ (cksL_each kid key z nn) (by rw [List.length_map, nonL_length]; omega)
 · rw [heq]; exact resR_ty 0 _

def CsOk (last : List UInt8) (cs : List (List UInt8)) : Prop := cs.length <= 8 ∧ last ∉ cs ∧ (∀ x ∈ cs, x.length = 104) ∧ cs.Nodup
theorem addC_ok {last : List UInt8} {cs : List (List UInt8)} {b : List UInt8} (h : CsOk last cs) (hb : b.length = 104) : CsOk last (addC last cs b) := by
 unfold addC
 split
 · next hc =>
   obtain ⟨h1, h2, h3⟩ := hc; refine ⟨by rw [List.length_append]; simp; omega, ?_, ?_, ?_⟩
   · rw [List.mem_append, List.mem_singleton]; exact fun e => e.elim h.2.1 h3
   · intro x hx; rw [List.mem_append, List.mem_singleton] at hx; rcases hx with hx | rfl
     · exact h.2.2.1 x hx
     · exact hb
   · rw [List.nodup_append]; refine ⟨h.2.2.2, by simp, fun x hx y hy => ?_⟩; rw [List.mem_singleton] at hy; subst hy; exact fun e => h2 (e ▸ hx)
 · exact h
theorem addL_ok {last : List UInt8} : ∀ (bs cs : List (List UInt8)), CsOk last cs -> (∀ x ∈ bs, x.length = 104) -> CsOk last (addL last cs bs)
 | [], cs, h, _ => h
 | b :: bs, cs, h, hb => by
  have e : addL last cs (b :: bs) = addL last (addC last cs b) bs := rfl; rw [e]; exact addL_ok bs _ (addC_ok h (hb b List.mem_cons_self)) fun x hx => hb x (List.mem_cons_of_mem _ hx)
theorem JarT.ok.cs {j : JarT} (h : j.ok) : CsOk j.last j.cs := ⟨h.len, h.out, h.each, h.nd⟩
theorem JarT.ok.add {j : JarT} (h : j.ok) (bs : List (List UInt8)) (hb : ∀ x ∈ bs, x.length = 104) : ({ j with cs := addL j.last j.cs bs } : JarT).ok :=
 have k := addL_ok bs j.cs h.cs hb
 ⟨k.1, h.last, k.2.1, k.2.2.1, k.2.2.2, h.net, h.sent⟩
theorem jar_new_ok (up dn : List UInt8) (cs : List (List UInt8)) (h : ∀ x ∈ cs, x.length = 104) : (⟨up, dn, addL [] [] cs, [], 1, 0⟩ : JarT).ok :=
 have k := addL_ok cs [] (last := []) ⟨by decide, by simp, by simp, by simp⟩ h
 ⟨k.1, .inl rfl, k.2.1, k.2.2.1, k.2.2.2, (show (1 : Nat) <= 1000 by decide), (show (0 : Nat) <= 1000 by decide)⟩
theorem jar_taken_ok {up dn c0 : List UInt8} {rest : List (List UInt8)} {last : List UInt8} {net sent : Nat} (h : (⟨up, dn, c0 :: rest, last, net, sent⟩ : JarT).ok) (hs : sent < 1000) : (⟨up, dn, rest, c0, net, sent + 1⟩ : JarT).ok := by
 have h1 := h.len; have h2 := h.each; have h3 := h.nd; simp only [List.length_cons] at h1; rw [List.nodup_cons] at h3; exact ⟨by show rest.length <= 8; omega, .inr (h2 c0 (by simp)), h3.1, fun x hx => h2 x (by simp [hx]), h3.2, h.net, by show sent + 1 <= 1000; omega⟩
theorem addL_one (last c : List UInt8) (hl : last ≠ c) : addL last [] [c] = [c] := by
 show addC last [] c = [c]
 unfold addC; rw [if_pos ⟨by decide, by simp, hl⟩]; rfl
theorem addL_two (last c d : List UInt8) (hl : last ≠ c) : ∃ rest, addL last [] [c, d] = c :: rest ∧ rest.length <= 1 := by
 have e : addL last [] [c, d] = addC last (addC last [] c) d := rfl; have e1 : addC last [] c = [c] := addL_one last c hl; rw [e, e1]; unfold addC
 split
 · exact ⟨[d], rfl, by simp⟩
 · exact ⟨[], rfl, by simp⟩
theorem addL_fresh {last : List UInt8} : ∀ (bs cs : List (List UInt8)), (cs ++ bs).Nodup -> last ∉ bs -> cs.length + bs.length <= 8 -> addL last cs bs = cs ++ bs
 | [], cs, _, _, _ => by rw [List.append_nil]; rfl
 | b :: bs, cs, hn, hl, hlen => by
  have e : addL last cs (b :: bs) = addL last (addC last cs b) bs := rfl; rw [List.length_cons] at hlen; have hb : b ∉ cs := by
   rw [List.nodup_append] at hn; exact fun h => hn.2.2 b h b (by simp) rfl
  have ea : addC last cs b = cs ++ [b] := by
   unfold addC; rw [if_pos ⟨by omega, hb, fun h => hl (by simp [h])⟩]
  rw [e, ea, addL_fresh bs (cs ++ [b]) (by rw [List.append_assoc]; exact hn) (fun h => hl (by simp [h])) (by rw [List.length_append]; simp; omega), List.append_assoc]
  rfl
theorem question_ok (v : Value) (j : JarT) (c0 : List UInt8) (rest : List (List UInt8)) (t : Nat) (Au : Option Addr) (cu' : Nat) (uq : List UInt8) (An : Option Addr) (cn : Nat) (nonce : List UInt8) (w : World) (hj : JarV w v j) (ho : j.ok) (hcs : j.cs = c0 :: rest) (ht : t < 18446744073709551616) (hu : Bytes w Au 32 cu' uq) (hn : Bytes w An 16 cn nonce) (kr : Nat) (hkr : rest.length + kr = 7) :
    Calls Tryz.prog 10 #[v, .int .u64 t, .slice Au 32 cu', .slice An 16 cn] w fun e w' => ∃ v' A' c', e = .returned (.tuple #[v', .slice A' (232 + 108 * kr) c', .int .i64 0]) ∧ JarV w' v' ⟨j.up, j.dn, rest, c0, j.net, j.sent + 1⟩ ∧ Bytes w' A' (232 + 108 * kr) c' (protB j.up (askH t) (qFs uq c0 kr) [] nonce) ∧ Below w.heap.size w w' := by
 have hc0 : c0.length = 104 := ho.each c0 (by rw [hcs]; simp); have huq := hu.len; have h := jquestion_any v j c0 rest t Au cu' uq An cn nonce w hj ho hcs ht hu hn kr hkr (err_q uq c0 kr huq hc0) (by rw [tot_q uq c0 kr huq hc0]; omega) (find_q1028 uq c0 kr (by omega)); rw [tot_q uq c0 kr huq hc0, show 88 + (144 + 108 * kr) + 0 = 232 + 108 * kr by omega] at h; exact h
theorem answer_ok (v : Value) (j : JarT) (Au : Option Addr) (cu1 : Nat) (uq1 uq : List UInt8) (AB : Option Addr) (nB cB : Nat) (t : Nat) (ht : t < 18446744073709551616) (cks : List (List UInt8)) (nonce : List UInt8) (w : World) (hj : JarV w v j) (ho : j.ok) (hu : Bytes w Au 32 cu1 uq1)
    (hb : Bytes w AB nB cB (protB j.dn (rpH t) [(260, uq)] (ckF cks) nonce)) (hnn : nonce.length = 16) (huq : uq.length = 32) (hcl : ∀ x ∈ cks, x.length = 104) (hc8 : cks.length <= 8) :
    Calls Tryz.prog 12 #[v, .slice Au 32 cu1, .slice AB nB cB] w fun e w' => ((uq = uq1 ∧ ∃ v' A1 c1 A2 m2 c2, e = .returned (.tuple #[v', .agg #[.int .i64 0, .int .i64 4, .int .i64 4, .int .i64 1, .int .i64 6, .int .i64 (-20), .int .u32 0, .int .u32 0, .int .u32 0, .int .u64 0, .int .u64 (t : Int), .int .u64 7, .int .u64 8, .slice A1 1 c1, .slice A2 m2 c2, .bool true], .int .i64 0]) ∧ JarV w' v' { j with cs := addL j.last j.cs cks }) ∨ (uq ≠ uq1 ∧ e = .returned (.tuple #[.agg #[.slice none 0 0, .slice none 0 0, .slice none 0 0, .slice none 0 0, .int .i64 0, .int .i64 0], .agg #[.int .i64 0, .int .i64 0, .int .i64 0, .int .i64 0, .int .i64 0, .int .i64 0, .int .u32 0, .int .u32 0, .int .u32 0, .int .u64 0, .int .u64 0, .int .u64 0, .int .u64 0, .slice none 0 0, .slice none 0 0, .bool false], .int .i64 7]))) ∧ Below w.heap.size w w' :=
 janswer_any v j Au cu1 uq1 uq AB nB cB 0 4 1 6 (-20) 0 0 0 0 t 7 8 cks nonce w hj ho hu (rpH_ok t ht) hb hnn huq hcl hc8 (err_id uq huq) (err_ck cks hcl) (by rw [tot_id uq huq, tot_ck cks hcl]; omega)
theorem cookB_nonce {kid : Nat} {key up dn n1 n2 : List UInt8} {a : Nat} (h1 : n1.length = 16) (h2 : n2.length = 16) (h : cookB kid key n1 a up dn = cookB kid key n2 a up dn) : n1 = n2 := by
 unfold cookB ckB at h; have h' : ((putL kid 4 ++ (n1 ++ sealB key [putL kid 4, n1] (cookP a up dn))).drop 4).take 16 = ((putL kid 4 ++ (n2 ++ sealB key [putL kid 4, n2] (cookP a up dn))).drop 4).take 16 := congrArg (fun l => (l.drop 4).take 16) h; rw [List.drop_append_of_le_length (by rw [putL_length]; exact Nat.le_refl _), List.drop_of_length_le (by rw [putL_length]; exact Nat.le_refl _), List.nil_append, List.drop_append_of_le_length (by rw [putL_length]; exact Nat.le_refl _), List.drop_of_length_le (by rw [putL_length]; exact Nat.le_refl _), List.nil_append, List.take_append_of_le_length (by omega), List.take_append_of_le_length (by omega), List.take_of_length_le (by omega), List.take_of_length_le (by omega)] at h'; exact h'
def nines : List Nat := [499079513, 12588446, 3901959868, 1564947080, 3474846395, 1494705794, 852999327, 2346212949, 2169223055]
theorem nines_at : ∀ i, i < 8 -> aN (1000 + i) = nines.getD i 0 := by
 intro i hi
 match i, hi with
 | 0, _ => exact aN_1000
 | 1, _ => exact aN_1001
 | 2, _ => exact aN_1002
 | 3, _ => exact aN_1003
 | 4, _ => exact aN_1004
 | 5, _ => exact aN_1005
 | 6, _ => exact aN_1006
 | 7, _ => exact aN_1007
 | i + 8, h => omega
theorem nines_apart : (List.range 8).all (fun j => (List.range j).all (fun i => decide (nines.getD i 0 ≠ nines.getD j 0))) = true := by decide +kernel
theorem nines_last : (List.range 8).all (fun j => decide (nines.getD j 0 ≠ nines.getD 8 0)) = true := by decide +kernel
theorem made_apart (i j : Nat) (h : i < j) (hj : j < 8) : wbytesL (1000 + i) 16 ≠ wbytesL (1000 + j) 16 := by
 refine wb_apart _ _ 16 (by decide) (by decide) ?_; rw [nines_at i (by omega), nines_at j hj]; exact of_decide_eq_true (List.all_eq_true.1 (List.all_eq_true.1 nines_apart j (List.mem_range.2 hj)) i (List.mem_range.2 h))
theorem made_last (j : Nat) (hj : j < 8) : wbytesL 2000001 16 ≠ wbytesL (1000 + j) 16 := by
 refine wb_apart _ _ 16 (by decide) (by decide) ?_; rw [nines_at j hj, aN_2000001]; exact fun e => of_decide_eq_true (List.all_eq_true.1 nines_last j (List.mem_range.2 hj)) e.symm
theorem full_jar (kid : Nat) (key up dn : List UInt8) : addL (cookB kid key (wbytesL 2000001 16) 15 up dn) [] (mkL kid key up dn 1000 8) = mkL kid key up dn 1000 8 := by
 have hl : ∀ s, (wbytesL s 16).length = 16 := fun s => wbytesL_length _ _
 refine addL_fresh (mkL kid key up dn 1000 8) [] ?_ ?_ ?_
 · rw [List.nil_append]; unfold mkL List.Nodup; rw [List.pairwise_map]; refine List.Pairwise.imp_of_mem (fun {a b} ha hb hab => ?_) (List.pairwise_lt_range); intro e; exact made_apart a b hab (List.mem_range.1 hb) (cookB_nonce (hl _) (hl _) e)
 · intro h; unfold mkL at h; obtain ⟨i, hi, e⟩ := List.mem_map.1 h; exact made_last i (List.mem_range.1 hi) (cookB_nonce (hl _) (hl _) e.symm)
 · rw [mkL_length]; decide
theorem serve_ok (rg : Value) (ks : List (Int × List UInt8)) (kid : Nat) (hkid : kid <= 4294967295) (key : List UInt8) (rest : List (Int × List UInt8)) (up dn n0 uq : List UInt8) (t n z : Nat) (ht : t < 18446744073709551616) (hn7 : n <= 7) (hz : z <= 1000000) (nonce : List UInt8) (AQ : Option Addr) (nQ cQ : Nat) (w : World)
    (hr : RingV w rg ks) (hg : RingG ks) (he : ks = ((kid : Int), key) :: rest) (hq : Bytes w AQ nQ cQ (protB up (askH t) (qFs uq (cookB kid key n0 15 up dn) n) [] nonce)) (hn0 : n0.length = 16) (hup : up.length = 32) (hdn : dn.length = 32) (huq : uq.length = 32) (hno : nonce.length = 16) :
    Calls Tryz.prog 11 #[rg, .slice AQ nQ cQ, .int .i64 z] w fun e w' => ∃ A' n' c', e = .returned (.tuple #[.slice A' n' c', .bool true]) ∧ Bytes w' A' n' c' (protB dn (rpH t) [(260, uq)] (ckF (mkL kid key up dn z (n + 1))) (wbytesL (z + 100) 16)) ∧ Below w.heap.size w w' := by
 have hc : (cookB kid key n0 15 up dn).length = 104 := cookB_length _ _ _ _ _ _ hn0 hup hdn; refine (serve_any rg ks kid hkid key rest up dn n0 uq t n z ht hn7 hz nonce AQ nQ cQ w hr hg (.inl he) hq hn0 hup hdn huq hno _ rfl _ rfl (err_r _ _ _ _ _ _ huq hc hno) (by rw [tot_r _ _ _ _ _ _ huq hc hno]; omega) (by rw [find_pad]; exact find_r516 _ _ _ n hn7) (by rw [find_pad]; exact find_r260 _ _ _ n hn7) (dat_r _ _ _ n hc)
   (err_q _ _ _ huq hc) (by rw [tot_q _ _ _ huq hc]; omega) (by rw [qFs_length]; exact find_q1028 _ _ n hn7) (pad_q _ _ n huq hc) (find_q772 _ _ n hn7)).mono ?_
 rintro e w' ⟨⟨_, h⟩ | ⟨h, _⟩, hb⟩
 · obtain ⟨A', n', c', h1, h2⟩ := h; exact ⟨A', n', c', h1, h2, hb⟩
 · exact absurd (by rw [he]; rfl) (h 0 (by rw [he]; simp))
theorem serve_not (rg : Value) (ks : List (Int × List UInt8)) (kid : Nat) (hkid : kid <= 4294967295) (key : List UInt8) (up dn n0 uq : List UInt8) (t n z : Nat) (ht : t < 18446744073709551616) (hn7 : n <= 7) (hz : z <= 1000000) (nonce : List UInt8) (AQ : Option Addr) (nQ cQ : Nat) (w : World)
    (hr : RingV w rg ks) (hg : RingG ks) (hnk : ∀ i, i < ks.length -> fldT ks i ≠ (kid : Int)) (hq : Bytes w AQ nQ cQ (protB up (askH t) (qFs uq (cookB kid key n0 15 up dn) n) [] nonce)) (hn0 : n0.length = 16) (hup : up.length = 32) (hdn : dn.length = 32) (huq : uq.length = 32) (hno : nonce.length = 16) :
    Calls Tryz.prog 11 #[rg, .slice AQ nQ cQ, .int .i64 z] w fun e w' => e = .returned (.tuple #[.slice none 0 0, .bool false]) ∧ Below w.heap.size w w' := by
 have hc : (cookB kid key n0 15 up dn).length = 104 := cookB_length _ _ _ _ _ _ hn0 hup hdn; refine (serve_any rg ks kid hkid key [] up dn n0 uq t n z ht hn7 hz nonce AQ nQ cQ w hr hg (.inr hnk) hq hn0 hup hdn huq hno _ rfl _ rfl (err_r _ _ _ _ _ _ huq hc hno) (by rw [tot_r _ _ _ _ _ _ huq hc hno]; omega) (by rw [find_pad]; exact find_r516 _ _ _ n hn7) (by rw [find_pad]; exact find_r260 _ _ _ n hn7) (dat_r _ _ _ n hc)
   (err_q _ _ _ huq hc) (by rw [tot_q _ _ _ huq hc]; omega) (by rw [qFs_length]; exact find_q1028 _ _ n hn7) (pad_q _ _ n huq hc) (find_q772 _ _ n hn7)).mono ?_
 rintro e w' ⟨⟨h, _⟩ | ⟨_, h⟩, hb⟩
 · exact absurd (by rw [h]; rfl) (hnk 0 (by rw [h]; simp))
 · exact ⟨h, hb⟩
theorem JarV.shape {w : World} {v : Value} {j : JarT} (h : JarV w v j) : ∃ U u D d C n e Z m l x y, v = .agg #[.slice U 32 u, .slice D 32 d, .slice C n e, .slice Z m l, .int .i64 x, .int .i64 y] := by
 obtain ⟨U, cu, D, cd, AC, nC, cC, AZ, nL, cL, e, _⟩ := h; exact ⟨U, cu, D, cd, AC, nC, cC, AZ, nL, cL, _, _, e⟩
theorem JarV.count {w : World} {U D C Z : Option Addr} {u d n e m l : Nat} {x y : Int} {j : JarT} (h : JarV w (.agg #[.slice U 32 u, .slice D 32 d, .slice C n e, .slice Z m l, .int .i64 x, .int .i64 y]) j) : n = j.cs.length := by
 obtain ⟨_, _, _, _, _, _, _, _, _, _, e, _, _, h3, _⟩ := h; simp only [Value.agg.injEq, Array.mk.injEq, List.cons.injEq, Value.slice.injEq] at e; obtain ⟨_, _, ⟨rfl, rfl, rfl⟩, _⟩ := e; exact h3.len.symm
theorem question_ok1 (v : Value) (j : JarT) (c0 : List UInt8) (rest : List (List UInt8)) (t : Nat) (Au : Option Addr) (cu' : Nat) (uq : List UInt8) (An : Option Addr) (cn : Nat) (nonce : List UInt8) (w : World) (hj : JarV w v j) (ho : j.ok) (hcs : j.cs = c0 :: rest) (ht : t < 18446744073709551616) (hu : Bytes w Au 32 cu' uq) (hn : Bytes w An 16 cn nonce) (kr : Nat) (hkr : rest.length + kr = 7) (N : Nat) (hN : 232 + 108 * kr = N) :
    Calls Tryz.prog 10 #[v, .int .u64 t, .slice Au 32 cu', .slice An 16 cn] w fun e w' => ∃ v' A' c', e = .returned (.tuple #[v', .slice A' N c', .int .i64 0]) ∧ JarV w' v' ⟨j.up, j.dn, rest, c0, j.net, j.sent + 1⟩ ∧ Bytes w' A' N c' (protB j.up (askH t) (qFs uq c0 kr) [] nonce) ∧ Below w.heap.size w w' := by
 subst hN; exact question_ok v j c0 rest t Au cu' uq An cn nonce w hj ho hcs ht hu hn kr hkr
theorem RingV.shape {w : World} {v : Value} {ks : List (Int × List UInt8)} (h : RingV w v ks) : ∃ A n c, v = .agg #[.slice A n c] := by
 obtain ⟨A, n, c, e, _⟩ := h; exact ⟨A, n, c, e⟩
theorem cks1 (kid : Nat) (key : List UInt8) : cksL kid key 1 1 = [cookB kid key (wbytesL 2000001 16) 15 (kUp 1) (kDn 1)] := rfl
theorem roused_any (w : World) : Calls Tryz.prog 13 #[] w fun e w' => e = .returned (.bool true) ∧ Below w.heap.size w w' := by
 obtain ⟨rest, hrg⟩ := ringL_cons 1 0; obtain ⟨key, hkey⟩ : ∃ key, fldD (ringL 1 0) 0 = key := ⟨_, rfl⟩; rw [hkey] at hrg; obtain ⟨ks, hks⟩ : ∃ ks, ringL 1 0 = ks := ⟨_, rfl⟩; have hgood := ringL_good 1 0 (by decide) (by decide); rw [hks] at hrg hgood; have HE := qq hrg; have HG := qq hgood; have HKS := qq hks; obtain ⟨c0, hc0⟩ : ∃ c0, cookB 1 key (wbytesL 2000001 16) 15 (kUp 1) (kDn 1) = c0 := ⟨_, rfl⟩; have hc104 : c0.length = 104 := by rw [<- hc0]; exact cookB_length _ _ _ _ _ _ (wbytesL_length _ _) (kUp_length 1) (kDn_length 1)
 have HC0 := qq hc0; obtain ⟨ML, hML⟩ : ∃ ML, mkL 1 key (kUp 1) (kDn 1) 1000 (7 + 1) = ML := ⟨_, rfl⟩; have hm4 : ∀ x ∈ ML, x.length = 104 := by rw [<- hML]; exact mkL_each _ _ _ _ _ _ (kUp_length 1) (kDn_length 1)
 have hm8 : ML.length = 8 := by rw [<- hML]; exact mkL_length _ _ _ _ _ _
 have hmf : addL c0 [] ML = ML := by rw [<- hML, <- hc0]; exact full_jar 1 key (kUp 1) (kDn 1)
 have HML := qq hML; have HM4 := qq hm4; have HM8 := qq hm8; have HFJ := qq hmf; clear hML hm4 hm8 hmf; have HJO := qq (show (⟨kUp 1, kDn 1, [c0], [], 1, 0⟩ : JarT).ok from by
  have h := jar_new_ok (kUp 1) (kDn 1) [c0] (fun x hx => by rw [List.mem_singleton] at hx; rw [hx]; exact hc104); rw [addL_one [] c0 (by intro e; rw [<- e] at hc104; cases hc104)] at h; exact h)
 have HC4 := qq hc104; have HJKO := qq (jar_taken_ok HJO.out (by decide)); clear hkey hrg hks hgood hc0 hc104
 go_enter Tryz.func13, Tryz.ntmps13
 have RW := qq (Below.refl w.heap.size w)
 go_wp2_with fail
 refine (ring_any 1 0 (by decide) (by decide) _).mono ?_; rintro e y1 ⟨u, rfl, hR, hb⟩; rw [HKS.out] at hR; obtain ⟨AR, nR, cR, rfl⟩ := hR.shape; have HR := qq hR; have RW := qt RW hb; clear hb hR
 go_upto_region 2 with (refine wpList_store_part rfl 25 _ _ rfl y1.heap.size 0 25 [] [.slice none 0 0] [] [.slice AR nR cR] rfl rfl (Blk.new _ _ _) rfl rfl infoRing (by simp [Value.oneCell']) ?_; intro y2 D9 G; rw [List.append_nil, List.nil_append] at D9; have G := below_new_store G)
 obtain ⟨g_, eg⟩ : ∃ g_, g_ = y1.heap.size := ⟨_, rfl⟩; rw [<- eg] at D9 ⊢; have BG := qq D9; have HR := qs HR G; have RW := qt RW G; clear G D9 eg
 go_wp2_with (refine wpList_load_part rfl 25 _ rfl g_ 0 25 [] [.slice AR nR cR] [] _ rfl BG.out rfl Tryz.underlying25 rfl infoRing ?_)
 refine (agree_ok 1 1 (by decide) (by decide) (by decide) _ ks 1 key rest _ HR.out HG.out HE.out).mono ?_; rintro e y3 ⟨K1, K2, A3, c3, rfl, hk1, hk2, hl3, hb⟩; rw [cks1, HC0.out] at hl3; have HR := qs HR hb; have BG := qs BG hb; have RW := qt RW hb; have HK1 := qq hk1; have HK2 := qq hk2; have HL3 := qq hl3; clear hb hk1 hk2 hl3
 go_upto_region 3 with (refine wpList_store_part rfl 32 _ _ rfl y3.heap.size 0 32 [] [.int .i64 0, .int .i64 0, .slice none 0 0, .slice none 0 0, .slice none 0 0, .string ⟨#[]⟩, .int .i64 0] [] [.int .i64 0, .int .i64 15, .slice K1 32 32, .slice K2 32 32, .slice A3 1 c3, .string ⟨#[]⟩, .int .i64 0] rfl rfl (Blk.new _ _ _) rfl rfl infoTrm (by simp [Value.oneCell']) ?_; intro y4 D9 G; rw [List.append_nil, List.nil_append] at D9; have G := below_new_store G)
 obtain ⟨t_, et⟩ : ∃ t_, t_ = y3.heap.size := ⟨_, rfl⟩; rw [<- et] at D9 ⊢; have BT := qq D9; have HR := qs HR G; have BG := qs BG G; have HK1 := qs HK1 G; have HK2 := qs HK2 G; have HL3 := qs HL3 G; have RW := qt RW G; clear G D9 et
 go_wp2_with (refine wpList_load_part rfl 32 _ rfl t_ 0 32 [] [.int .i64 0, .int .i64 15, .slice K1 32 32, .slice K2 32 32, .slice A3 1 c3, .string ⟨#[]⟩, .int .i64 0] [] _ rfl BT.out rfl Tryz.underlying32 rfl infoTrm ?_)
 refine (jnew_any K1 K2 A3 32 32 1 c3 0 (kUp 1) (kDn 1) [c0] _ HK1.out HK2.out HL3.out (by decide) (by decide) (fun x hx => by rw [List.mem_singleton] at hx; rw [hx]; exact HC4.out)).mono ?_; rintro e y5 ⟨v1, rfl, hJ, hb⟩; rw [addL_one [] c0 (by have := HC4.out; intro e; rw [<- e] at this; cases this)] at hJ; obtain ⟨Uj, uj, Dj, dj, Cj, nj, ej, Zj, mj, lj, xj, yj, rfl⟩ := hJ.shape; have HJ := qq hJ; have HR := qs HR hb; have BG := qs BG hb; have RW := qt RW hb; clear hb hJ HK1 HK2 HL3 BT
 go_upto_region 4 with (refine wpList_store_part rfl 36 _ _ rfl y5.heap.size 0 36 [] [.slice none 0 0, .slice none 0 0, .slice none 0 0, .slice none 0 0, .int .i64 0, .int .i64 0] [] [.slice Uj 32 uj, .slice Dj 32 dj, .slice Cj nj ej, .slice Zj mj lj, .int .i64 xj, .int .i64 yj] rfl rfl (Blk.new _ _ _) rfl rfl infoJar (by simp [Value.oneCell']) ?_; intro y6 D9 G; rw [List.append_nil, List.nil_append] at D9; have G := below_new_store G)
 obtain ⟨j_, ej⟩ : ∃ j_, j_ = y5.heap.size := ⟨_, rfl⟩; rw [<- ej] at D9 ⊢; have BJ := qq D9; have HR := qs HR G; have BG := qs BG G; have HJ := qs HJ G; have RW := qt RW G; clear G D9 ej
 go_wp2_with fail
 refine (wbytes_new 5 32 _ (by decide) (by decide) (by decide)).mono ?_; rintro e y8 ⟨Au, cu, rfl, hU, _, hb⟩; have HR := qs HR hb; have BG := qs BG hb; have HJ := qs HJ hb; have BJ := qs BJ hb; have RW := qt RW hb; have HU := qq hU; clear hb hU; have HRST : Hid (∀ x ∈ (⟨kUp 1, kDn 1, [], c0, 1, 1⟩ : JarT).cs, x.length = 104) := fun x hx => by simp at hx
 obtain ⟨NQ, hNQ⟩ : ∃ NQ, 232 + 108 * 7 = NQ := ⟨_, rfl⟩; have HNQ := qq hNQ; clear hNQ
 go_upto_region 5 with fail
 refine take_start (S := fun u => Below y8.heap.size y8 u) (by kernel_rfl) ?hPQ (Below.refl _ _).drew (fun hPQ hHeld => ?reg5)
 case hPQ => (repeat (with_reducible first | refine PQ.then ?_ | refine PQ.block ?_)); exact fun _ _ d _ _ h => by cases d <;> exact h
 case reg5 =>
 obtain ⟨yd, hyd⟩ : ∃ yd, y8.drew = yd := ⟨_, rfl⟩; rw [hyd] at hHeld ⊢; clear hyd; refine qv (i := 0) (d := some 28) (v := .agg #[.slice Uj 32 uj, .slice Dj 32 dj, .slice Cj nj ej, .slice Zj mj lj, .int .i64 xj, .int .i64 yj]) rfl rfl (by kernel_rfl) hPQ (fun u hu => ?_) hHeld ?_
 · exact exec_load_part 36 _ rfl j_ 0 36 [] [.slice Uj 32 uj, .slice Dj 32 dj, .slice Cj nj ej, .slice Zj mj lj, .int .i64 xj, .int .i64 yj] [] _ rfl (BJ.out.stays hu) rfl Tryz.underlying36 rfl infoJar
 try simp only [qp, qn]
 refine qv (i := 1) (d := some 29) (v := .slice Au 32 cu) rfl rfl (by kernel_rfl) hPQ (fun u hu => ?_) hHeld ?_
 · go_simp; try with_reducible rfl
 try simp only [qp, qn]
 refine (fun (hF : (?CF : Prop)) => ?mA) ?gF
 case mA =>
  refine (fun (hM : (?CM : Prop)) => ?mB) ?gM
  case mB =>
   refine take_or (i := 2) (j := 8) (by kernel_rfl) ?_ ?_
   · refine op_make (j := 2) (d := some 30) (R := fun v u => ∃ An cn, v = .slice An 16 cn ∧ Bytes u An 16 cn (wbytesL 6 16) ∧ Below yd.heap.size yd u) rfl rfl rfl (by go_simp) ((wbytes_new 6 16 _ (by decide) (by decide) (by decide)).mono (fun e q h => ?_)) ?_
     · obtain ⟨A', c', rfl, h1, _, h2⟩ := h; exact ⟨_, rfl, A', c', rfl, h1, h2⟩
     rintro _ wa ⟨An, cn, rfl, hN, hbn⟩; have hHa := hHeld.trans (hbn.mono hHeld.size); refine ⟨hHa, ?_⟩; try simp only [qp, qn]
     refine take_or (i := 3) (j := 8) (by kernel_rfl) ?_ ?_
     · refine op_make (j := 3) (d := some 31) (R := fun v u => ∃ Uk uk Dk dk Ck nk ek Zk mk lk xk yk A2 c2, v = .tuple #[.agg #[.slice Uk 32 uk, .slice Dk 32 dk, .slice Ck nk ek, .slice Zk mk lk, .int .i64 xk, .int .i64 yk], .slice A2 NQ c2, .int .i64 0] ∧ JarV u (.agg #[.slice Uk 32 uk, .slice Dk 32 dk, .slice Ck nk ek, .slice Zk mk lk, .int .i64 xk, .int .i64 yk]) ⟨kUp 1, kDn 1, [], c0, 1, 1⟩ ∧ Bytes u A2 NQ c2 (protB (kUp 1) (askH 9) (qFs (wbytesL 5 32) c0 7) [] (wbytesL 6 16)) ∧ Below wa.heap.size wa u) rfl rfl rfl (by go_simp) ((question_ok1 _ ⟨kUp 1, kDn 1, [c0], [], 1, 0⟩ c0 [] 9 Au cu (wbytesL 5 32) An cn (wbytesL 6 16) _ (HJ.out.stays hHa) HJO.out rfl (by decide) (HU.out.stays hHa) hN 7 rfl NQ HNQ.out).mono (fun e q h => ?_)) ?_
       · obtain ⟨v', A', c', rfl, h1, h2, h3⟩ := h; obtain ⟨U, cu, D', cd, AC, nC, cC, AZ, nL, cL, x, y, rfl⟩ := h1.shape; exact ⟨_, rfl, U, cu, D', cd, AC, nC, cC, AZ, nL, cL, x, y, A', c', rfl, h1, h2, h3⟩
       rintro _ wb ⟨Uk, uk, Dk, dk, Ck, nk, ek, Zk, mk, lk, xk, yk, A2, c2, rfl, hJ, hQ, hbq⟩; have hHb := hHa.trans (hbq.mono hHa.size); refine ⟨hHb, ?_⟩; try simp only [qp, qn]
       refine qv (i := 4) (d := some 27) (v := .tuple #[.agg #[.slice Uk 32 uk, .slice Dk 32 dk, .slice Ck nk ek, .slice Zk mk lk, .int .i64 xk, .int .i64 yk], .slice A2 NQ c2, .int .i64 0]) rfl rfl (by kernel_rfl) hPQ (fun u hu => ?_) hHb ?_
       · go_simp; try with_reducible rfl
       try simp only [qp, qn]
       refine qv (i := 5) (d := some 32) (v := .agg #[.slice Uk 32 uk, .slice Dk 32 dk, .slice Ck nk ek, .slice Zk mk lk, .int .i64 xk, .int .i64 yk]) rfl rfl (by kernel_rfl) hPQ (fun u hu => ?_) hHb ?_
       · go_simp; try with_reducible rfl
       try simp only [qp, qn]
       refine qv (i := 6) (d := some 33) (v := .slice A2 NQ c2) rfl rfl (by kernel_rfl) hPQ (fun u hu => ?_) hHb ?_
       · go_simp; try with_reducible rfl
       try simp only [qp, qn]
       refine qv (i := 7) (d := some 34) (v := .int .i64 0) rfl rfl (by kernel_rfl) hPQ (fun u hu => ?_) hHb ?_
       · go_simp; try with_reducible rfl
       try simp only [qp, qn]
       refine take_one (i := 8) (by kernel_rfl) ?_; refine op_alloc (i := 8) (di := some 7) (z := #[.slice none 0 0, .slice none 0 0, .slice none 0 0, .slice none 0 0, .int .i64 0, .int .i64 0]) (T := 36) rfl rfl rfl (by go_simp; try with_reducible rfl) ?_; intro ga wf hg hBk hbx; have hHf := hHb.trans (hbx.mono hHb.size); have hgY : y8.heap.size <= ga := Nat.le_trans hHb.size hg; refine ⟨hHf, ?_⟩; try simp only [qp, qn]
       replace hJ := hJ.stays hbx; replace hQ := hQ.stays hbx; clear hbx hg hHb hbq hN hbn hHa; refine relist (L' := #[true, true, true, true, true, true, true, true, true, false, false, false]) (by kernel_rfl) ?_; revert hQ; revert hJ; revert hBk; revert hgY; revert hHf; revert wf; revert ga; revert c2; revert A2; revert yk; revert xk; revert lk; revert mk; revert Zk; revert ek; revert nk; revert Ck; revert dk; revert Dk; revert uk; revert Uk; revert cn; revert An; exact hF
     · refine op_alloc (i := 8) (di := some 7) (z := #[.slice none 0 0, .slice none 0 0, .slice none 0 0, .slice none 0 0, .int .i64 0, .int .i64 0]) (T := 36) rfl rfl rfl (by go_simp; try with_reducible rfl) ?_; intro ga wm hg hBk hbx; have hHm := hHa.trans (hbx.mono hHa.size); have hgY : y8.heap.size <= ga := Nat.le_trans hHa.size hg; refine ⟨hHm, ?_⟩; try simp only [qp, qn]
       replace hN := hN.stays hbx; clear hbx hg hbn hHa; refine relist (L' := #[true, true, true, false, false, false, false, false, true, false, false, false]) (by kernel_rfl) ?_; revert hN; revert hBk; revert hgY; revert hHm; revert wm; revert ga; revert cn; revert An; exact hM
   · refine op_alloc (i := 8) (di := some 7) (z := #[.slice none 0 0, .slice none 0 0, .slice none 0 0, .slice none 0 0, .int .i64 0, .int .i64 0]) (T := 36) rfl rfl rfl (by go_simp; try with_reducible rfl) ?_; intro ga wx hg hBk hbx; have hHx := hHeld.trans (hbx.mono hHeld.size); have hgY : y8.heap.size <= ga := Nat.le_trans hHeld.size hg; refine ⟨hHx, ?_⟩; try simp only [qp, qn]
     refine take_one (i := 2) (by kernel_rfl) ?_; refine op_make (j := 2) (d := some 30) (R := fun v u => ∃ An cn, v = .slice An 16 cn ∧ Bytes u An 16 cn (wbytesL 6 16) ∧ Below wx.heap.size wx u) rfl rfl rfl (by go_simp) ((wbytes_new 6 16 _ (by decide) (by decide) (by decide)).mono (fun e q h => ?_)) ?_
     · obtain ⟨A', c', rfl, h1, _, h2⟩ := h; exact ⟨_, rfl, A', c', rfl, h1, h2⟩
     rintro _ wm ⟨An, cn, rfl, hN, hbn⟩; have hHm := hHx.trans (hbn.mono hHx.size); refine ⟨hHm, ?_⟩; try simp only [qp, qn]
     replace hBk := hBk.stays hbn; clear hbn hbx hg hHx; refine relist (L' := #[true, true, true, false, false, false, false, false, true, false, false, false]) (by kernel_rfl) ?_; revert hN; revert hBk; revert hgY; revert hHm; revert wm; revert ga; revert cn; revert An; exact hM
  case gM =>
   intro An cn ga wm hHm hgY hBk hN; refine take_one (i := 3) (by kernel_rfl) ?_; refine op_make (j := 3) (d := some 31) (R := fun v u => ∃ Uk uk Dk dk Ck nk ek Zk mk lk xk yk A2 c2, v = .tuple #[.agg #[.slice Uk 32 uk, .slice Dk 32 dk, .slice Ck nk ek, .slice Zk mk lk, .int .i64 xk, .int .i64 yk], .slice A2 NQ c2, .int .i64 0] ∧ JarV u (.agg #[.slice Uk 32 uk, .slice Dk 32 dk, .slice Ck nk ek, .slice Zk mk lk, .int .i64 xk, .int .i64 yk]) ⟨kUp 1, kDn 1, [], c0, 1, 1⟩ ∧ Bytes u A2 NQ c2 (protB (kUp 1) (askH 9) (qFs (wbytesL 5 32) c0 7) [] (wbytesL 6 16)) ∧ Below wm.heap.size wm u) rfl rfl rfl (by go_simp) ((question_ok1 _ ⟨kUp 1, kDn 1, [c0], [], 1, 0⟩ c0 [] 9 Au cu (wbytesL 5 32) An cn (wbytesL 6 16) _ (HJ.out.stays hHm) HJO.out rfl (by decide) (HU.out.stays hHm) hN 7 rfl NQ HNQ.out).mono (fun e q h => ?_)) ?_
   · obtain ⟨v', A', c', rfl, h1, h2, h3⟩ := h; obtain ⟨U, cu, D', cd, AC, nC, cC, AZ, nL, cL, x, y, rfl⟩ := h1.shape; exact ⟨_, rfl, U, cu, D', cd, AC, nC, cC, AZ, nL, cL, x, y, A', c', rfl, h1, h2, h3⟩
   rintro _ wf ⟨Uk, uk, Dk, dk, Ck, nk, ek, Zk, mk, lk, xk, yk, A2, c2, rfl, hJ, hQ, hbq⟩; have hHf := hHm.trans (hbq.mono hHm.size); refine ⟨hHf, ?_⟩; try simp only [qp, qn]
   refine qv (i := 4) (d := some 27) (v := .tuple #[.agg #[.slice Uk 32 uk, .slice Dk 32 dk, .slice Ck nk ek, .slice Zk mk lk, .int .i64 xk, .int .i64 yk], .slice A2 NQ c2, .int .i64 0]) rfl rfl (by kernel_rfl) hPQ (fun u hu => ?_) hHf ?_
   · go_simp; try with_reducible rfl
   try simp only [qp, qn]
   refine qv (i := 5) (d := some 32) (v := .agg #[.slice Uk 32 uk, .slice Dk 32 dk, .slice Ck nk ek, .slice Zk mk lk, .int .i64 xk, .int .i64 yk]) rfl rfl (by kernel_rfl) hPQ (fun u hu => ?_) hHf ?_
   · go_simp; try with_reducible rfl
   try simp only [qp, qn]
   refine qv (i := 6) (d := some 33) (v := .slice A2 NQ c2) rfl rfl (by kernel_rfl) hPQ (fun u hu => ?_) hHf ?_
   · go_simp; try with_reducible rfl
   try simp only [qp, qn]
   refine qv (i := 7) (d := some 34) (v := .int .i64 0) rfl rfl (by kernel_rfl) hPQ (fun u hu => ?_) hHf ?_
   · go_simp; try with_reducible rfl
   try simp only [qp, qn]
   replace hBk := hBk.stays hbq; clear hbq hN hHm; refine relist (L' := #[true, true, true, true, true, true, true, true, true, false, false, false]) (by kernel_rfl) ?_; revert hQ; revert hJ; revert hBk; revert hgY; revert hHf; revert wf; revert ga; revert c2; revert A2; revert yk; revert xk; revert lk; revert mk; revert Zk; revert ek; revert nk; revert Ck; revert dk; revert Dk; revert uk; revert Uk; revert cn; revert An; exact hF
 case gF =>
 intro An cn Uk uk Dk dk Ck nk ek Zk mk lk xk yk A2 c2 ga wf hHf hgY hBk hJ hQ
 skip
 refine take_store_part2 (j := 9) rfl rfl (by kernel_rfl) rfl 36 _ _ rfl ga 0 36 [] [.slice none 0 0, .slice none 0 0, .slice none 0 0, .slice none 0 0, .int .i64 0, .int .i64 0] [] [.slice Uk 32 uk, .slice Dk 32 dk, .slice Ck nk ek, .slice Zk mk lk, .int .i64 xk, .int .i64 yk] rfl rfl hBk rfl rfl infoJar (by simp [Value.oneCell']) (fun u _ hu => hHf.grown hu hHf.size (fun k hk => by cases hk; exact hgY)) (fun wg E7 G7 => ?_); rw [List.append_nil, List.nil_append] at E7; try simp only [qp, qn]
 have hHg := hHf.grown G7 hHf.size (fun k hk => by cases hk; exact hgY); have hQ := hQ.kept G7 (off_block hQ hBk rfl); have hJ := hJ.keptZ hBk rfl rfl HRST.out G7; refine take_do (j := 10) (d := some 8) (v := .slice A2 NQ c2) (w2 := wg) rfl rfl (by kernel_rfl) rfl (Or.inl (by go_simp; try with_reducible rfl)) hHg ?_; try simp only [qp, qn]
 refine take_do (j := 11) (d := some 9) (v := .int .i64 0) (w2 := wg) rfl rfl (by kernel_rfl) rfl (Or.inl (by go_simp; try with_reducible rfl)) hHg ?_; try simp only [qp, qn]
 refine wpAnyH_done (by kernel_rfl) ?_ _; clear hPQ hHeld hHf hgY hBk G7; have HJK := qq hJ; have HQ := qq hQ; have BK := qq E7; have HR := qs HR hHg; have BG := qs BG hHg; have HU := qs HU hHg; have RW := qt RW hHg; clear hJ hQ E7 hHg BJ HJ
 go_wp2_with (refine wpList_load_part rfl 25 _ rfl g_ 0 25 [] [.slice AR nR cR] [] _ rfl BG.out rfl Tryz.underlying25 rfl infoRing ?_)
 have HSV := qq (serve_ok _ ks 1 (by decide) key rest (kUp 1) (kDn 1) (wbytesL 2000001 16) (wbytesL 5 32) 9 7 1000 (by decide) (by decide) (by decide) (wbytesL 6 16) A2 NQ c2 wg HR.out HG.out HE.out (by rw [HC0.out]; exact HQ.out) (wbytesL_length _ _) (kUp_length 1) (kDn_length 1) (wbytesL_length _ _) (wbytesL_length _ _)); refine HSV.out.mono ?_; rintro e y9 ⟨Ab, nb, cb, rfl, hB, hb⟩; rw [HML.out] at hB; have hnb : nb = NQ := by
  rw [<- hB.len, protB_length _ _ _ _ _ (wbytesL_length _ _), tot_id _ (wbytesL_length _ _), tot_ck _ HM4.out, HM8.out, <- HNQ.out]
 subst hnb; have HU := qs HU hb; have HJK := qs HJK hb; have BK := qs BK hb; have RW := qt RW hb; have HB := qq hB; clear hb hB HSV HQ HR BG HJO
 go_wp2_with (refine wpList_load_part rfl 36 _ rfl ga 0 36 [] [.slice Uk 32 uk, .slice Dk 32 dk, .slice Ck nk ek, .slice Zk mk lk, .int .i64 xk, .int .i64 yk] [] _ rfl BK.out rfl Tryz.underlying36 rfl infoJar ?_)
 refine (answer_ok _ ⟨kUp 1, kDn 1, [], c0, 1, 1⟩ Au cu (wbytesL 5 32) (wbytesL 5 32) Ab _ cb 9 (by decide) ML (wbytesL (1000 + 100) 16) _ HJK.out HJKO.out HU.out HB.out (wbytesL_length _ _) (wbytesL_length _ _) HM4.out (by rw [HM8.out]; exact Nat.le_refl _)).mono ?_; rintro e y10 ⟨(⟨_, v2, A6, c6, A7, m7, c7, rfl, hJ2⟩ | ⟨hne, _⟩), hb⟩
 · obtain ⟨Uf, uf, Df, df, Cf, nf, ef, Zf, mf, lf, xf, yf, rfl⟩ := hJ2.shape; have hn8 : nf = 8 := by
    have h := hJ2.count; have h2 : nf = (addL c0 [] ML).length := h; rw [h2, HFJ.out, HM8.out]
   subst hn8; have RW := qt RW hb; clear hb hJ2 HJK HB HU BK HFJ
   go_upto_region 8 with fail
   obtain ⟨z3, f_, p_, ez, ef_, ep⟩ : ∃ z3 f_ p_, z3 = (y10.alloc (.cells #[.slice Uf 32 uf, .slice Df 32 df, .slice Cf 8 ef, .slice Zf mf lf, .int .i64 xf, .int .i64 yf] 36)).alloc (.cells #[.int .i64 0, .int .i64 4, .int .i64 4, .int .i64 1, .int .i64 6, .int .i64 (-20), .int .u32 0, .int .u32 0, .int .u32 0, .int .u64 0, .int .u64 9, .int .u64 7, .int .u64 8, .slice A6 1 c6, .slice A7 m7 c7, .bool true] 51) ∧ f_ = y10.heap.size ∧ p_ = y10.heap.size + 1 := ⟨_, _, _, rfl, rfl, rfl⟩; have hx : Below y10.heap.size y10 z3 := by rw [ez]; exact below_alloc2 _ _ _
   have BF := qq (show Blk z3 f_ 36 #[.slice Uf 32 uf, .slice Df 32 df, .slice Cf 8 ef, .slice Zf mf lf, .int .i64 xf, .int .i64 yf] by rw [ez, ef_]; exact blk_new2_0 _ _ _ _ _); have BP := qq (show Blk z3 p_ 51 #[.int .i64 0, .int .i64 4, .int .i64 4, .int .i64 1, .int .i64 6, .int .i64 (-20), .int .u32 0, .int .u32 0, .int .u32 0, .int .u64 0, .int .u64 9, .int .u64 7, .int .u64 8, .slice A6 1 c6, .slice A7 m7 c7, .bool true] by rw [ez, ep]; exact blk_new2_1 _ _ _ _ _); rw [<- ez, <- ep, <- ef_]; have RW := qt RW hx; clear hx ez ef_ ep; have k2 := BF.out.cell 2; have k10 := BP.out.cell 10
   go_wp2_with fail
   go_ret; exact ⟨rfl, RW.out⟩
 · exact absurd rfl hne
end Go.Proofs.YtiemnacoebkalaaGreat
