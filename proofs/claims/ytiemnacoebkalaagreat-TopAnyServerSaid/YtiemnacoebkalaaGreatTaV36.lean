import Derived.Test.YtiemnacoebkalaaGreatTaV35
set_option linter.all false
set_option maxRecDepth 100000
set_option maxHeartbeats 4000000
namespace Go.Proofs.YtiemnacoebkalaaGreat
open Go Go.RowKit
section
variable {P : Program} {md : Region.Mode} {ops : Array Oper} {Q : Exit -> Act -> World -> Prop} {S : World -> Prop}
theorem take_or3 {i j k : Nat} {fuel : Nat} {listed : Array Bool} {a : Act} {w : World} (hr : Region.ready md ops listed = [i, j, k])
    (hi : wpOp P ops Q i (fun a' w' => S w' ∧ wpAnyH P md ops Q S fuel (listed.setIfInBounds i true) a' w') a w)
    (hj : wpOp P ops Q j (fun a' w' => S w' ∧ wpAnyH P md ops Q S fuel (listed.setIfInBounds j true) a' w') a w)
    (hk : wpOp P ops Q k (fun a' w' => S w' ∧ wpAnyH P md ops Q S fuel (listed.setIfInBounds k true) a' w') a w) : wpAnyH P md ops Q S (fuel + 1) listed a w := by
 refine wpAnyH_all hr (by simp) fun l hl => ?_
 rcases (by simpa using hl : l = i ∨ l = j ∨ l = k) with rfl | rfl | rfl
 · exact hi
 · exact hj
 · exact hk
end
theorem cks2 (kid : Nat) (key : List UInt8) (z : Nat) : cksL kid key z 2 = [cookB kid key (wbytesL (nz z 0) 16) 15 (kUp z) (kDn z), cookB kid key (wbytesL (nz z 1) 16) 15 (kUp z) (kDn z)] := rfl
theorem seed_wrap (z : Nat) (r : Int) (hz : z < 1000) (h1 : -999 <= r) (h2 : r <= 999) : ∃ s : Nat, IntKind.u64.wrap ((z : Int) + r) = (s : Int) ∧ s < 18446744073709551616 ∧ (s < 2000 ∨ 18446744073709550616 <= s ∧ s < 18446744073709551616) := by
 refine ⟨(((z : Int) + r) % 18446744073709551616).toNat, ?_, by omega, by omega⟩; have e : ∀ n : Int, IntKind.u64.wrap n = n % 18446744073709551616 := fun n => by simp [IntKind.wrap, IntKind.bits, IntKind.signed]
 rw [e]; omega
theorem ring_other (id kid : Nat) (h : kid < id) : ∀ i, i < (ringL id 1).length -> fldT (ringL id 1) i ≠ (kid : Int) := by
 intro i hi; rw [ringL_len] at hi; rw [ringL_T id 1 i (by omega)]; omega
theorem tmod_small (a : Int) : -999 <= a.tmod 1000 ∧ a.tmod 1000 <= 999 := by
 have h1 := Int.tmod_eq_emod (a := a) (b := 1000); have h3 := Int.emod_nonneg a (show (1000 : Int) ≠ 0 by decide); have h4 := Int.emod_lt_of_pos a (show (0 : Int) < 1000 by decide); rw [h1]
 split <;> constructor <;> omega
theorem topAny_walk (a0 a1 a2 : Int) (w : World) : Calls Tryz.prog 3 #[.int .i64 a0, .int .i64 a1, .int .i64 a2] w fun e w' => e = .returned (.bool true) ∧ Below w.heap.size w w' := by
 obtain ⟨z, hza⟩ : ∃ z : Nat, a0 % 1000 = (z : Int) := ⟨(a0 % 1000).toNat, by omega⟩; obtain ⟨y, hya⟩ : ∃ y : Nat, a1 % 1000 = (y : Int) := ⟨(a1 % 1000).toNat, by omega⟩; have hz : z < 1000 := by omega
 have hy : y < 1000 := by omega
 obtain ⟨r, hr⟩ : ∃ r, a2.tmod 1000 = r := ⟨_, rfl⟩; have hr1 := tmod_small a2; rw [hr] at hr1; obtain ⟨si, hsi⟩ : ∃ si, (z : Int) + r = si := ⟨_, rfl⟩; obtain ⟨s1, hs1, hs2, hs3⟩ := seed_wrap z r hz hr1.1 hr1.2; rw [hsi] at hs1; have wr1 : IntKind.i64.wrap r = r := IntWalk.i64_in _ (by omega); have wsi : IntKind.i64.wrap si = si := IntWalk.i64_in _ (by omega); obtain ⟨U1, hU1⟩ : ∃ U1, wbytesL s1 32 = U1 := ⟨_, rfl⟩; have hu1 : U1.length = 32 := by rw [<- hU1]; exact wbytesL_length _ _
 obtain ⟨q7, hq7⟩ : ∃ q7, z + 77 = q7 := ⟨_, rfl⟩; obtain ⟨z5, hz5⟩ : ∃ z5, z + 5000 = z5 := ⟨_, rfl⟩; have hap : ¬ U1 = wbytesL z5 32 := by rw [<- hU1]; exact ids_apart s1 z5 hs3 (by omega) (by omega)
 obtain ⟨id2, hid2⟩ : ∃ id2, z + 2000 + y = id2 := ⟨_, rfl⟩; obtain ⟨ksr, hrg⟩ := ringL_cons z 2; obtain ⟨key, hkey⟩ : ∃ key, fldD (ringL z 2) 0 = key := ⟨_, rfl⟩; rw [hkey] at hrg; obtain ⟨ks, hks⟩ : ∃ ks, ringL z 2 = ks := ⟨_, rfl⟩; have hgood := ringL_good z 2 (by decide) (by omega); rw [hks] at hrg hgood; have hgood2 := ringL_good id2 1 (by decide) (by omega); have hoth := ring_other id2 (z + 2) (by omega); obtain ⟨N0, hN0⟩ : ∃ N0, wbytesL (nz z 0) 16 = N0 := ⟨_, rfl⟩; have hn0 : N0.length = 16 := by rw [<- hN0]; exact wbytesL_length _ _
 obtain ⟨c0, hc0⟩ : ∃ c0, cookB (z + 2) key N0 15 (kUp z) (kDn z) = c0 := ⟨_, rfl⟩; obtain ⟨c1, hc1⟩ : ∃ c1, cookB (z + 2) key (wbytesL (nz z 1) 16) 15 (kUp z) (kDn z) = c1 := ⟨_, rfl⟩; have hc4 : c0.length = 104 := by rw [<- hc0]; exact cookB_length _ _ _ _ _ _ hn0 (kUp_length z) (kDn_length z)
 have hc5 : c1.length = 104 := by rw [<- hc1]; exact cookB_length _ _ _ _ _ _ (wbytesL_length _ _) (kUp_length z) (kDn_length z)
 have hcs : cksL (z + 2) key z 2 = [c0, c1] := by rw [cks2, hN0, hc0, hc1]
 have hce : ∀ x ∈ [c0, c1], x.length = 104 := fun x hx => by
  simp only [List.mem_cons, List.not_mem_nil, or_false] at hx; rcases hx with rfl | rfl
  · exact hc4
  · exact hc5
 obtain ⟨rest, hadd, hrl⟩ := addL_two [] c0 c1 (by intro e; rw [<- e] at hc4; cases hc4); have hjo := jar_new_ok (kUp z) (kDn z) [c0, c1] hce; rw [hadd] at hjo; obtain ⟨kr, hkr⟩ : ∃ kr, rest.length + kr = 7 := ⟨7 - rest.length, by omega⟩; have hkr7 : kr <= 7 := by omega
 obtain ⟨ML, hML⟩ : ∃ ML, mkL (z + 2) key (kUp z) (kDn z) q7 (kr + 1) = ML := ⟨_, rfl⟩; have hm4 : ∀ x ∈ ML, x.length = 104 := by rw [<- hML]; exact mkL_each _ _ _ _ _ _ (kUp_length z) (kDn_length z)
 have hm8 : ML.length <= 8 := by rw [<- hML, mkL_length]; omega
 obtain ⟨NA, hNA⟩ : ∃ NA, wbytesL (q7 + 100) 16 = NA := ⟨_, rfl⟩; have hna : NA.length = 16 := by rw [<- hNA]; exact wbytesL_length _ _
 obtain ⟨ANS, hANS⟩ : ∃ ANS, protB (kDn z) (rpH 4) [(260, U1)] (ckF ML) NA = ANS := ⟨_, rfl⟩; have HE := qq hrg; have HG := qq hgood; have HKS := qq hks; have HG2 := qq hgood2; have HOTH := qq hoth; have HU1 := qq hu1; have HUE := qq hU1; have HAP := qq hap; have HN0 := qq hn0; have HC0 := qq hc0; have HCS := qq hcs; have HCE := qq hce; have HADD := qq hadd; have HJO := qq hjo; have HJKO := qq (jar_taken_ok hjo (by decide)); have HJFO := qq ((jar_taken_ok hjo (by decide)).add ML hm4); have HKR := qq hkr; have HML := qq hML; have HM4 := qq hm4; have HM8 := qq hm8; have HNE := qq hNA; have HNA := qq hna; have HZA := qq hza; have HYA := qq hya; have HR1 := qq hr; have HSI := qq hsi; have HS1 := qq hs1; have HS2 := qq hs2; have wq7 : IntKind.i64.wrap (q7 : Int) = (q7 : Int) := IntWalk.i64_in _ (by omega); have wz5 : IntKind.i64.wrap (z5 : Int) = (z5 : Int) := IntWalk.i64_in _ (by omega); have eq7 : (z : Int) + 77 = (q7 : Int) := by omega
 have ez5 : (z : Int) + 5000 = (z5 : Int) := by omega
 have hq7b : q7 <= 2000 := by omega
 have hz5b : z5 <= 6000 := by omega
 have hid2b : id2 <= 3998 := by omega
 have wzk : IntKind.i64.wrap ((z : Int) + 2000) = (z : Int) + 2000 := IntWalk.i64_in _ (by omega); have ezk : (z : Int) + 2000 + (y : Int) = (id2 : Int) := by omega
 have wid : IntKind.i64.wrap (id2 : Int) = (id2 : Int) := IntWalk.i64_in _ (by omega); have EQ7 := qq eq7; have HZa : Hid (z < 18446744073709551616) := qq (by omega); have HZb : Hid (z <= 9223372036854775807) := qq (by omega); have HZc : Hid (16 <= 100000) := qq (by decide); have HZd : Hid (z5 < 18446744073709551616) := qq (by omega); have HZe : Hid (z5 <= 9223372036854775807) := qq (by omega); have HZf : Hid (32 <= 100000) := qq (by decide); have HZg : Hid (4 < 18446744073709551616) := qq (by decide); have EZ5 := qq ez5; have EZK := qq ezk; clear hkey hrg hks hgood hgood2 hoth hu1 hU1 hap hn0 hN0 hc0 hc1 hc4 hc5 hcs hce hadd hjo hkr hML hm4 hm8 hNA hna hANS hza hya hr hsi hs1 hs2 hs3 hq7 hz5 hid2 hrl hr1 eq7 ez5 ezk; have RW := qq (Below.refl w.heap.size w)
 go_enter Tryz.func3, Tryz.ntmps3
 go_wp2_with fail
 refine (within_any a0 1000 (by decide) (by decide) _).mono ?_; rintro e y0 ⟨rfl, rfl⟩; rw [HZA.out]
 go_wp2_with fail
 refine (ring_any z 2 (by omega) (by decide) _).mono ?_; rintro e y1 ⟨u, rfl, hR, hb⟩; rw [HKS.out] at hR; obtain ⟨AR, nR, cR, rfl⟩ := hR.shape; have HR := qq hR; have RW := qt RW hb; clear hb hR
 go_upto_region 3 with (refine wpList_store_part rfl 25 _ _ rfl y1.heap.size 0 25 [] [.slice none 0 0] [] [.slice AR nR cR] rfl rfl (Blk.new _ _ _) rfl rfl infoRing (by simp [Value.oneCell']) ?_; intro y2 D9 G; rw [List.append_nil, List.nil_append] at D9; have G := below_new_store G)
 obtain ⟨g_, eg⟩ : ∃ g_, g_ = y1.heap.size := ⟨_, rfl⟩; rw [<- eg] at D9 ⊢; have BG := qq D9; have HR := qs HR G; have RW := qt RW G; clear G D9 eg
 go_wp2_with (refine wpList_load_part rfl 25 _ rfl g_ 0 25 [] [.slice AR nR cR] [] _ rfl BG.out rfl Tryz.underlying25 rfl infoRing ?_)
 refine (agree_ok z 2 (by omega) (by decide) (by decide) _ ks (z + 2) key ksr _ HR.out HG.out HE.out).mono ?_; rintro e y3 ⟨K1, K2, A3, c3, rfl, hk1, hk2, hl3, hb⟩; rw [HCS.out] at hl3; have HR := qs HR hb; have BG := qs BG hb; have RW := qt RW hb; have HK1 := qq hk1; have HK2 := qq hk2; have HL3 := qq hl3; clear hb hk1 hk2 hl3
 go_upto_region 4 with (refine wpList_store_part rfl 32 _ _ rfl y3.heap.size 0 32 [] [.int .i64 0, .int .i64 0, .slice none 0 0, .slice none 0 0, .slice none 0 0, .string ⟨#[]⟩, .int .i64 0] [] [.int .i64 0, .int .i64 15, .slice K1 32 32, .slice K2 32 32, .slice A3 2 c3, .string ⟨#[]⟩, .int .i64 0] rfl rfl (Blk.new _ _ _) rfl rfl infoTrm (by simp [Value.oneCell']) ?_; intro y4 D9 G; rw [List.append_nil, List.nil_append] at D9; have G := below_new_store G)
 obtain ⟨t_, et⟩ : ∃ t_, t_ = y3.heap.size := ⟨_, rfl⟩; rw [<- et] at D9 ⊢; have BT := qq D9; have HR := qs HR G; have BG := qs BG G; have HK1 := qs HK1 G; have HK2 := qs HK2 G; have HL3 := qs HL3 G; have RW := qt RW G; clear G D9 et
 go_wp2_with (refine wpList_load_part rfl 32 _ rfl t_ 0 32 [] [.int .i64 0, .int .i64 15, .slice K1 32 32, .slice K2 32 32, .slice A3 2 c3, .string ⟨#[]⟩, .int .i64 0] [] _ rfl BT.out rfl Tryz.underlying32 rfl infoTrm ?_)
 refine (jnew_any K1 K2 A3 32 32 2 c3 0 (kUp z) (kDn z) [c0, c1] _ HK1.out HK2.out HL3.out (by decide) (by decide) HCE.out).mono ?_; rintro e y5 ⟨v1, rfl, hJ, hb⟩; rw [HADD.out] at hJ; obtain ⟨Uj, uj, Dj, dj, Cj, nj, ej, Zj, mj, lj, xj, yj, rfl⟩ := hJ.shape; have HJ := qq hJ; have HR := qs HR hb; have BG := qs BG hb; have RW := qt RW hb; clear hb hJ HK1 HK2 HL3 BT
 go_upto_region 5 with (refine wpList_store_part rfl 36 _ _ rfl y5.heap.size 0 36 [] [.slice none 0 0, .slice none 0 0, .slice none 0 0, .slice none 0 0, .int .i64 0, .int .i64 0] [] [.slice Uj 32 uj, .slice Dj 32 dj, .slice Cj nj ej, .slice Zj mj lj, .int .i64 xj, .int .i64 yj] rfl rfl (Blk.new _ _ _) rfl rfl infoJar (by simp [Value.oneCell']) ?_; intro y6 D9 G; rw [List.append_nil, List.nil_append] at D9; have G := below_new_store G)
 obtain ⟨j_, ej⟩ : ∃ j_, j_ = y5.heap.size := ⟨_, rfl⟩; rw [<- ej] at D9 ⊢; have BJ := qq D9; have HR := qs HR G; have BG := qs BG G; have HJ := qs HJ G; have RW := qt RW G; clear G D9 ej; have er := HR1.out; have es := HSI.out
 go_wp2_with fail
 clear er es; refine (wbytes_neg si s1 32 _ HS1.out HS2.out (by decide)).mono ?_; rintro e y8 ⟨Au, cu, rfl, hU, _, hb⟩; rw [HUE.out] at hU; have HR := qs HR hb; have BG := qs BG hb; have HJ := qs HJ hb; have BJ := qs BJ hb; have RW := qt RW hb; have HU := qq hU; clear hb hU; have HRST : Hid (∀ x ∈ (⟨kUp z, kDn z, rest, c0, 1, 1⟩ : JarT).cs, x.length = 104) := HJKO.out.each; obtain ⟨NQ, hNQ⟩ : ∃ NQ, 232 + 108 * kr = NQ := ⟨_, rfl⟩; have HNQ := qq hNQ; clear hNQ
 go_upto_region 6 with fail
 refine take_start (S := fun u => Below y8.heap.size y8 u) (by kernel_rfl) ?hPQ (Below.refl _ _).drew (fun hPQ hHeld => ?reg6)
 case hPQ => (repeat (with_reducible first | refine PQ.then ?_ | refine PQ.block ?_)); exact fun _ _ d _ _ h => by cases d <;> exact h
 case reg6 =>
 obtain ⟨yd, hyd⟩ : ∃ yd, y8.drew = yd := ⟨_, rfl⟩; rw [hyd] at hHeld ⊢; clear hyd; refine qv (i := 0) (d := some 49) (v := .agg #[.slice Uj 32 uj, .slice Dj 32 dj, .slice Cj nj ej, .slice Zj mj lj, .int .i64 xj, .int .i64 yj]) rfl rfl (by kernel_rfl) hPQ (fun u hu => ?_) hHeld ?_
 · exact exec_load_part 36 _ rfl j_ 0 36 [] [.slice Uj 32 uj, .slice Dj 32 dj, .slice Cj nj ej, .slice Zj mj lj, .int .i64 xj, .int .i64 yj] [] _ rfl (BJ.out.stays hu) rfl Tryz.underlying36 rfl infoJar
 try simp only [qp, qn]
 refine qv (i := 1) (d := some 50) (v := .slice Au 32 cu) rfl rfl (by kernel_rfl) hPQ (fun u hu => ?_) hHeld ?_
 · go_simp; try with_reducible rfl
 try simp only [qp, qn]
 refine qv (i := 2) (d := some 51) (v := .int .i64 (z : Int)) rfl rfl (by kernel_rfl) hPQ (fun u hu => ?_) hHeld ?_
 · go_simp; try with_reducible rfl
 try simp only [qp, qn]
 refine (fun (hF : (?CF : Prop)) => ?mA) ?gF
 case mA =>
  refine (fun (hM : (?CM : Prop)) => ?mB) ?gM
  case mB =>
   refine take_or (i := 3) (j := 9) (by kernel_rfl) ?_ ?_
   · refine op_make (j := 3) (d := some 52) (R := fun v u => ∃ An cn, v = .slice An 16 cn ∧ Bytes u An 16 cn (wbytesL z 16) ∧ Below yd.heap.size yd u) rfl rfl rfl (by go_simp) ((wbytes_new z 16 _ HZa.out HZb.out HZc.out).mono (fun e q h => ?_)) ?_
     · obtain ⟨A', c', rfl, h1, _, h2⟩ := h; exact ⟨_, rfl, A', c', rfl, h1, h2⟩
     rintro _ wa ⟨An, cn, rfl, hN, hbn⟩; have hHa := hHeld.trans (hbn.mono hHeld.size); refine ⟨hHa, ?_⟩; try simp only [qp, qn]
     refine take_or (i := 4) (j := 9) (by kernel_rfl) ?_ ?_
     · refine op_make (j := 4) (d := some 53) (R := fun v u => ∃ Uk uk Dk dk Ck nk ek Zk mk lk xk yk A2 c2, v = .tuple #[.agg #[.slice Uk 32 uk, .slice Dk 32 dk, .slice Ck nk ek, .slice Zk mk lk, .int .i64 xk, .int .i64 yk], .slice A2 NQ c2, .int .i64 0] ∧ JarV u (.agg #[.slice Uk 32 uk, .slice Dk 32 dk, .slice Ck nk ek, .slice Zk mk lk, .int .i64 xk, .int .i64 yk]) ⟨kUp z, kDn z, rest, c0, 1, 1⟩ ∧ Bytes u A2 NQ c2 (protB (kUp z) (askH 4) (qFs U1 c0 kr) [] (wbytesL z 16)) ∧ Below wa.heap.size wa u) rfl rfl rfl (by go_simp) ((question_ok1 _ ⟨kUp z, kDn z, c0 :: rest, [], 1, 0⟩ c0 rest 4 Au cu U1 An cn (wbytesL z 16) _ (HJ.out.stays hHa) HJO.out rfl HZg.out (HU.out.stays hHa) hN kr HKR.out NQ HNQ.out).mono (fun e q h => ?_)) ?_
       · obtain ⟨v', A', c', rfl, h1, h2, h3⟩ := h; obtain ⟨U, cu, D', cd, AC, nC, cC, AZ, nL, cL, x, y, rfl⟩ := h1.shape; exact ⟨_, rfl, U, cu, D', cd, AC, nC, cC, AZ, nL, cL, x, y, A', c', rfl, h1, h2, h3⟩
       rintro _ wb ⟨Uk, uk, Dk, dk, Ck, nk, ek, Zk, mk, lk, xk, yk, A2, c2, rfl, hJ, hQ, hbq⟩; have hHb := hHa.trans (hbq.mono hHa.size); refine ⟨hHb, ?_⟩; try simp only [qp, qn]
       refine qv (i := 5) (d := some 48) (v := .tuple #[.agg #[.slice Uk 32 uk, .slice Dk 32 dk, .slice Ck nk ek, .slice Zk mk lk, .int .i64 xk, .int .i64 yk], .slice A2 NQ c2, .int .i64 0]) rfl rfl (by kernel_rfl) hPQ (fun u hu => ?_) hHb ?_
       · go_simp; try with_reducible rfl
       try simp only [qp, qn]
       refine qv (i := 6) (d := some 54) (v := .agg #[.slice Uk 32 uk, .slice Dk 32 dk, .slice Ck nk ek, .slice Zk mk lk, .int .i64 xk, .int .i64 yk]) rfl rfl (by kernel_rfl) hPQ (fun u hu => ?_) hHb ?_
       · go_simp; try with_reducible rfl
       try simp only [qp, qn]
       refine qv (i := 7) (d := some 55) (v := .slice A2 NQ c2) rfl rfl (by kernel_rfl) hPQ (fun u hu => ?_) hHb ?_
       · go_simp; try with_reducible rfl
       try simp only [qp, qn]
       refine qv (i := 8) (d := some 56) (v := .int .i64 0) rfl rfl (by kernel_rfl) hPQ (fun u hu => ?_) hHb ?_
       · go_simp; try with_reducible rfl
       try simp only [qp, qn]
       refine take_one (i := 9) (by kernel_rfl) ?_; refine op_alloc (i := 9) (di := some 13) (z := #[.slice none 0 0, .slice none 0 0, .slice none 0 0, .slice none 0 0, .int .i64 0, .int .i64 0]) (T := 36) rfl rfl rfl (by go_simp; try with_reducible rfl) ?_; intro ga wf hg hBk hbx; have hHf := hHb.trans (hbx.mono hHb.size); have hgY : y8.heap.size <= ga := Nat.le_trans hHb.size hg; refine ⟨hHf, ?_⟩; try simp only [qp, qn]
       replace hJ := hJ.stays hbx; replace hQ := hQ.stays hbx; clear hbx hg hHb hbq hN hbn hHa; refine relist (L' := #[true, true, true, true, true, true, true, true, true, true, false, false, false]) (by kernel_rfl) ?_; revert hQ; revert hJ; revert hBk; revert hgY; revert hHf; revert wf; revert ga; revert c2; revert A2; revert yk; revert xk; revert lk; revert mk; revert Zk; revert ek; revert nk; revert Ck; revert dk; revert Dk; revert uk; revert Uk; revert cn; revert An; exact hF
     · refine op_alloc (i := 9) (di := some 13) (z := #[.slice none 0 0, .slice none 0 0, .slice none 0 0, .slice none 0 0, .int .i64 0, .int .i64 0]) (T := 36) rfl rfl rfl (by go_simp; try with_reducible rfl) ?_; intro ga wm hg hBk hbx; have hHm := hHa.trans (hbx.mono hHa.size); have hgY : y8.heap.size <= ga := Nat.le_trans hHa.size hg; refine ⟨hHm, ?_⟩; try simp only [qp, qn]
       replace hN := hN.stays hbx; clear hbx hg hbn hHa; refine relist (L' := #[true, true, true, true, false, false, false, false, false, true, false, false, false]) (by kernel_rfl) ?_; revert hN; revert hBk; revert hgY; revert hHm; revert wm; revert ga; revert cn; revert An; exact hM
   · refine op_alloc (i := 9) (di := some 13) (z := #[.slice none 0 0, .slice none 0 0, .slice none 0 0, .slice none 0 0, .int .i64 0, .int .i64 0]) (T := 36) rfl rfl rfl (by go_simp; try with_reducible rfl) ?_; intro ga wx hg hBk hbx; have hHx := hHeld.trans (hbx.mono hHeld.size); have hgY : y8.heap.size <= ga := Nat.le_trans hHeld.size hg; refine ⟨hHx, ?_⟩; try simp only [qp, qn]
     refine take_one (i := 3) (by kernel_rfl) ?_; refine op_make (j := 3) (d := some 52) (R := fun v u => ∃ An cn, v = .slice An 16 cn ∧ Bytes u An 16 cn (wbytesL z 16) ∧ Below wx.heap.size wx u) rfl rfl rfl (by go_simp) ((wbytes_new z 16 _ HZa.out HZb.out HZc.out).mono (fun e q h => ?_)) ?_
     · obtain ⟨A', c', rfl, h1, _, h2⟩ := h; exact ⟨_, rfl, A', c', rfl, h1, h2⟩
     rintro _ wm ⟨An, cn, rfl, hN, hbn⟩; have hHm := hHx.trans (hbn.mono hHx.size); refine ⟨hHm, ?_⟩; try simp only [qp, qn]
     replace hBk := hBk.stays hbn; clear hbn hbx hg hHx; refine relist (L' := #[true, true, true, true, false, false, false, false, false, true, false, false, false]) (by kernel_rfl) ?_; revert hN; revert hBk; revert hgY; revert hHm; revert wm; revert ga; revert cn; revert An; exact hM
  case gM =>
   intro An cn ga wm hHm hgY hBk hN; refine take_one (i := 4) (by kernel_rfl) ?_; refine op_make (j := 4) (d := some 53) (R := fun v u => ∃ Uk uk Dk dk Ck nk ek Zk mk lk xk yk A2 c2, v = .tuple #[.agg #[.slice Uk 32 uk, .slice Dk 32 dk, .slice Ck nk ek, .slice Zk mk lk, .int .i64 xk, .int .i64 yk], .slice A2 NQ c2, .int .i64 0] ∧ JarV u (.agg #[.slice Uk 32 uk, .slice Dk 32 dk, .slice Ck nk ek, .slice Zk mk lk, .int .i64 xk, .int .i64 yk]) ⟨kUp z, kDn z, rest, c0, 1, 1⟩ ∧ Bytes u A2 NQ c2 (protB (kUp z) (askH 4) (qFs U1 c0 kr) [] (wbytesL z 16)) ∧ Below wm.heap.size wm u) rfl rfl rfl (by go_simp) ((question_ok1 _ ⟨kUp z, kDn z, c0 :: rest, [], 1, 0⟩ c0 rest 4 Au cu U1 An cn (wbytesL z 16) _ (HJ.out.stays hHm) HJO.out rfl HZg.out (HU.out.stays hHm) hN kr HKR.out NQ HNQ.out).mono (fun e q h => ?_)) ?_
   · obtain ⟨v', A', c', rfl, h1, h2, h3⟩ := h; obtain ⟨U, cu, D', cd, AC, nC, cC, AZ, nL, cL, x, y, rfl⟩ := h1.shape; exact ⟨_, rfl, U, cu, D', cd, AC, nC, cC, AZ, nL, cL, x, y, A', c', rfl, h1, h2, h3⟩
   rintro _ wf ⟨Uk, uk, Dk, dk, Ck, nk, ek, Zk, mk, lk, xk, yk, A2, c2, rfl, hJ, hQ, hbq⟩; have hHf := hHm.trans (hbq.mono hHm.size); refine ⟨hHf, ?_⟩; try simp only [qp, qn]
   refine qv (i := 5) (d := some 48) (v := .tuple #[.agg #[.slice Uk 32 uk, .slice Dk 32 dk, .slice Ck nk ek, .slice Zk mk lk, .int .i64 xk, .int .i64 yk], .slice A2 NQ c2, .int .i64 0]) rfl rfl (by kernel_rfl) hPQ (fun u hu => ?_) hHf ?_
   · go_simp; try with_reducible rfl
   try simp only [qp, qn]
   refine qv (i := 6) (d := some 54) (v := .agg #[.slice Uk 32 uk, .slice Dk 32 dk, .slice Ck nk ek, .slice Zk mk lk, .int .i64 xk, .int .i64 yk]) rfl rfl (by kernel_rfl) hPQ (fun u hu => ?_) hHf ?_
   · go_simp; try with_reducible rfl
   try simp only [qp, qn]
   refine qv (i := 7) (d := some 55) (v := .slice A2 NQ c2) rfl rfl (by kernel_rfl) hPQ (fun u hu => ?_) hHf ?_
   · go_simp; try with_reducible rfl
   try simp only [qp, qn]
   refine qv (i := 8) (d := some 56) (v := .int .i64 0) rfl rfl (by kernel_rfl) hPQ (fun u hu => ?_) hHf ?_
   · go_simp; try with_reducible rfl
   try simp only [qp, qn]
   replace hBk := hBk.stays hbq; clear hbq hN hHm; refine relist (L' := #[true, true, true, true, true, true, true, true, true, true, false, false, false]) (by kernel_rfl) ?_; revert hQ; revert hJ; revert hBk; revert hgY; revert hHf; revert wf; revert ga; revert c2; revert A2; revert yk; revert xk; revert lk; revert mk; revert Zk; revert ek; revert nk; revert Ck; revert dk; revert Dk; revert uk; revert Uk; revert cn; revert An; exact hF
 case gF =>
 intro An cn Uk uk Dk dk Ck nk ek Zk mk lk xk yk A2 c2 ga wf hHf hgY hBk hJ hQ
 skip
 refine take_store_part2 (j := 10) rfl rfl (by kernel_rfl) rfl 36 _ _ rfl ga 0 36 [] [.slice none 0 0, .slice none 0 0, .slice none 0 0, .slice none 0 0, .int .i64 0, .int .i64 0] [] [.slice Uk 32 uk, .slice Dk 32 dk, .slice Ck nk ek, .slice Zk mk lk, .int .i64 xk, .int .i64 yk] rfl rfl hBk rfl rfl infoJar (by simp [Value.oneCell']) (fun u _ hu => hHf.grown hu hHf.size (fun k hk => by cases hk; exact hgY)) (fun wg E7 G7 => ?_); rw [List.append_nil, List.nil_append] at E7; try simp only [qp, qn]
 have hHg := hHf.grown G7 hHf.size (fun k hk => by cases hk; exact hgY); have hQ := hQ.kept G7 (off_block hQ hBk rfl); have hJ := hJ.keptZ hBk rfl rfl HRST.out G7; refine take_do (j := 11) (d := some 14) (v := .slice A2 NQ c2) (w2 := wg) rfl rfl (by kernel_rfl) rfl (Or.inl (by go_simp; try with_reducible rfl)) hHg ?_; try simp only [qp, qn]
 refine take_do (j := 12) (d := some 15) (v := .int .i64 0) (w2 := wg) rfl rfl (by kernel_rfl) rfl (Or.inl (by go_simp; try with_reducible rfl)) hHg ?_; try simp only [qp, qn]
 refine wpAnyH_done (by kernel_rfl) ?_ _; clear hPQ hHeld hHf hgY hBk G7; have HJK := qq hJ; have HQ := qq hQ; have BK := qq E7; have HR := qs HR hHg; have BG := qs BG hHg; have HU := qs HU hHg; have RW := qt RW hHg; clear hJ hQ E7 hHg BJ HJ; have eq7 := EQ7.out
 go_wp2_with (refine wpList_load_part rfl 25 _ rfl g_ 0 25 [] [.slice AR nR cR] [] _ rfl BG.out rfl Tryz.underlying25 rfl infoRing ?_)
 clear eq7; refine (serve_ok _ ks (z + 2) (by omega) key ksr (kUp z) (kDn z) N0 U1 4 kr q7 (by decide) (by omega) (by omega) (wbytesL z 16) A2 NQ c2 _ HR.out HG.out HE.out (by rw [HC0.out]; exact HQ.out) HN0.out (kUp_length z) (kDn_length z) HU1.out (wbytesL_length _ _)).mono ?_; rintro e y9 ⟨Aa, na, ca, rfl, hB, hb⟩; rw [HML.out, HNE.out] at hB; have HU := qs HU hb; have HJK := qs HJK hb; have BK := qs BK hb; have HQ := qs HQ hb; have RW := qt RW hb; have HBa := qq hB; clear hb hB HR BG HJO
 go_wp2_with fail
 refine (ring_any z 2 (by omega) (by decide) _).mono ?_; rintro e z1 ⟨u, rfl, hR, hb⟩; rw [HKS.out] at hR; obtain ⟨AR2, nR2, cR2, rfl⟩ := hR.shape; have HR := qq hR; have HU := qs HU hb; have HJK := qs HJK hb; have BK := qs BK hb; have HQ := qs HQ hb; have HBa := qs HBa hb; have RW := qt RW hb; clear hb hR; have eq7 := EQ7.out
 go_wp2_with fail
 clear eq7; refine (serve_ok _ ks (z + 2) (by omega) key ksr (kUp z) (kDn z) N0 U1 4 kr q7 (by decide) (by omega) (by omega) (wbytesL z 16) A2 NQ c2 _ HR.out HG.out HE.out (by rw [HC0.out]; exact HQ.out) HN0.out (kUp_length z) (kDn_length z) HU1.out (wbytesL_length _ _)).mono ?_; rintro e z2 ⟨Ab, nb, cb, rfl, hB, hb⟩; rw [HML.out, HNE.out] at hB; have HU := qs HU hb; have HJK := qs HJK hb; have BK := qs BK hb; have HQ := qs HQ hb; have HBa := qs HBa hb; have RW := qt RW hb; have HBb := qq hB; clear hb hB HR
 go_wp2_with fail
 refine (within_any a1 1000 (by decide) (by decide) _).mono ?_; rintro e z3 ⟨rfl, rfl⟩; rw [HYA.out]; have ezk := EZK.out
 go_wp2_with fail
 clear ezk; refine (ring_any id2 1 hid2b (by decide) _).mono ?_; rintro e z4 ⟨u, rfl, hR, hb⟩; obtain ⟨AR3, nR3, cR3, rfl⟩ := hR.shape; have HR := qq hR; have HU := qs HU hb; have HJK := qs HJK hb; have BK := qs BK hb; have HQ := qs HQ hb; have HBa := qs HBa hb; have HBb := qs HBb hb; have RW := qt RW hb; clear hb hR
 go_wp2_with fail
 refine (serve_not _ (ringL id2 1) (z + 2) (by omega) key (kUp z) (kDn z) N0 U1 4 kr 1 (by decide) (by omega) (by decide) (wbytesL z 16) A2 NQ c2 _ HR.out HG2.out HOTH.out (by rw [HC0.out]; exact HQ.out) HN0.out (kUp_length z) (kDn_length z) HU1.out (wbytesL_length _ _)).mono ?_; rintro e z5_ ⟨rfl, hb⟩; have HU := qs HU hb; have HJK := qs HJK hb; have BK := qs BK hb; have HBa := qs HBa hb; have HBb := qs HBb hb; have RW := qt RW hb; clear hb HR HQ
 go_wp2_with (refine wpList_load_part rfl 36 _ rfl ga 0 36 [] [.slice Uk 32 uk, .slice Dk 32 dk, .slice Ck nk ek, .slice Zk mk lk, .int .i64 xk, .int .i64 yk] [] _ rfl BK.out rfl Tryz.underlying36 rfl infoJar ?_)
 refine (answer_ok _ ⟨kUp z, kDn z, rest, c0, 1, 1⟩ Au cu U1 U1 Aa na ca 4 (by decide) ML NA _ HJK.out HJKO.out HU.out HBa.out HNA.out HU1.out HM4.out HM8.out).mono ?_; rintro e y10 ⟨(⟨_, v2, A6, c6, A7, m7, c7, rfl, hJ2⟩ | ⟨hne, _⟩), hb⟩
 · obtain ⟨Uf, uf, Df, df, Cf, nf, ef, Zf, mf, lf, xf, yf, rfl⟩ := hJ2.shape; have HBa := qs HBa hb; have HBb := qs HBb hb; have RW := qt RW hb; have HJF := qq (show JarV y10 (.agg #[.slice Uf 32 uf, .slice Df 32 df, .slice Cf nf ef, .slice Zf mf lf, .int .i64 xf, .int .i64 yf]) ⟨kUp z, kDn z, addL c0 rest ML, c0, 1, 1⟩ from hJ2); clear hb hJ2 HJK HU BK
   go_upto_region 11 with fail
   obtain ⟨ya, f_, p_, ez, ef_, ep⟩ : ∃ ya f_ p_, ya = (y10.alloc (.cells #[.slice Uf 32 uf, .slice Df 32 df, .slice Cf nf ef, .slice Zf mf lf, .int .i64 xf, .int .i64 yf] 36)).alloc (.cells #[.int .i64 0, .int .i64 4, .int .i64 4, .int .i64 1, .int .i64 6, .int .i64 (-20), .int .u32 0, .int .u32 0, .int .u32 0, .int .u64 0, .int .u64 4, .int .u64 7, .int .u64 8, .slice A6 1 c6, .slice A7 m7 c7, .bool true] 51) ∧ f_ = y10.heap.size ∧ p_ = y10.heap.size + 1 := ⟨_, _, _, rfl, rfl, rfl⟩; have hx : Below y10.heap.size y10 ya := by rw [ez]; exact below_alloc2 _ _ _
   have BF := qq (show Blk ya f_ 36 #[.slice Uf 32 uf, .slice Df 32 df, .slice Cf nf ef, .slice Zf mf lf, .int .i64 xf, .int .i64 yf] by rw [ez, ef_]; exact blk_new2_0 _ _ _ _ _); rw [<- ez, <- ep, <- ef_]; have HBa := qs HBa hx; have HBb := qs HBb hx; have HJF := qs HJF hx; have RW := qt RW hx; clear hx ez ef_ ep; have ez5 := EZ5.out; refine take_start (S := fun u => Below ya.heap.size ya u) (by kernel_rfl) ?hPQ (Below.refl _ _).drew (fun hPQ hHeld => ?reg11)
   case hPQ => (repeat (with_reducible first | refine PQ.then ?_ | refine PQ.block ?_)); exact fun _ _ d _ _ h => by cases d <;> exact h
   case reg11 =>
   obtain ⟨wq, hwq⟩ : ∃ wq, ya.drew = wq := ⟨_, rfl⟩; rw [hwq] at hHeld ⊢; clear hwq; refine qv (i := 0) (d := some 94) (v := .agg #[.slice Uf 32 uf, .slice Df 32 df, .slice Cf nf ef, .slice Zf mf lf, .int .i64 xf, .int .i64 yf]) rfl rfl (by kernel_rfl) hPQ (fun u hu => ?_) hHeld ?_
   · exact exec_load_part 36 _ rfl f_ 0 36 [] [.slice Uf 32 uf, .slice Df 32 df, .slice Cf nf ef, .slice Zf mf lf, .int .i64 xf, .int .i64 yf] [] _ rfl (BF.out.stays hu) rfl Tryz.underlying36 rfl infoJar
   try simp only [qp, qn]
   refine qv (i := 1) (d := some 95) (v := .int .i64 (z : Int)) rfl rfl (by kernel_rfl) hPQ (fun u hu => ?_) hHeld ?_
   · go_simp; try with_reducible rfl
   try simp only [qp, qn]
   refine qv (i := 2) (d := some 96) (v := .int .i64 (z5 : Int)) rfl rfl (by kernel_rfl) hPQ (fun u hu => ?_) hHeld ?_
   · go_simp; try with_reducible rfl
   try simp only [qp, qn]
   refine qv (i := 4) (d := some 98) (v := .slice Ab nb cb) rfl rfl (by kernel_rfl) hPQ (fun u hu => ?_) hHeld ?_
   · go_simp; try with_reducible rfl
   try simp only [qp, qn]
   refine (fun (h211 : (?C211 : Prop)) => ?m211) ?g211
   case' m211 => refine (fun (h111 : (?C111 : Prop)) => ?m111) ?g111
   case' m111 => refine (fun (h201 : (?C201 : Prop)) => ?m201) ?g201
   case' m201 => refine (fun (h210 : (?C210 : Prop)) => ?m210) ?g210
   case' m210 => refine (fun (h011 : (?C011 : Prop)) => ?m011) ?g011
   case' m011 => refine (fun (h101 : (?C101 : Prop)) => ?m101) ?g101
   case' m101 => refine (fun (h110 : (?C110 : Prop)) => ?m110) ?g110
   case' m110 => refine (fun (h200 : (?C200 : Prop)) => ?m200) ?g200
   case' m200 => refine (fun (h001 : (?C001 : Prop)) => ?m001) ?g001
   case' m001 => refine (fun (h010 : (?C010 : Prop)) => ?m010) ?g010
   case' m010 => refine (fun (h100 : (?C100 : Prop)) => ?m100) ?g100
   case m100 =>
    have hH := hHeld; refine take_or3 (i := 3) (j := 10) (k := 11) (by kernel_rfl) ?_ ?_ ?_
    · refine op_make (j := 3) (d := some 97) (R := fun v u => ∃ An cn, v = .slice An 32 cn ∧ Bytes u An 32 cn (wbytesL z5 32) ∧ Below wq.heap.size wq u) rfl rfl rfl (by go_simp) ((wbytes_new z5 32 _ HZd.out HZe.out HZf.out).mono (fun e q h => ?_)) ?_
      · obtain ⟨A', c', rfl, h1, _, h2⟩ := h; exact ⟨_, rfl, A', c', rfl, h1, h2⟩
      rintro _ wr ⟨An, cn, rfl, hN, hbn⟩; replace hH := hH.trans (hbn.mono hH.size); refine ⟨hH, ?_⟩; try simp only [qp, qn]
      clear hbn; refine relist (L' := #[true, true, true, true, true, false, false, false, false, false, false, false, false, false, false]) (by kernel_rfl) ?_; revert hN; revert hH; revert wr; revert cn; revert An; exact h100
    · refine op_alloc (i := 10) (di := some 25) (z := #[.slice none 0 0, .slice none 0 0, .slice none 0 0, .slice none 0 0, .int .i64 0, .int .i64 0]) (T := 36) rfl rfl rfl (by go_simp; try with_reducible rfl) ?_; intro gx wr hg hBx hbn; have hgx : ya.heap.size <= gx := Nat.le_trans hH.size hg; replace hH := hH.trans (hbn.mono hH.size); refine ⟨hH, ?_⟩; try simp only [qp, qn]
      clear hbn hg; refine relist (L' := #[true, true, true, false, true, false, false, false, false, false, true, false, false, false, false]) (by kernel_rfl) ?_; revert hBx; revert hgx; revert hH; revert wr; revert gx; exact h010
    · refine op_alloc (i := 11) (di := some 26) (z := #[.int .i64 0, .int .i64 0, .int .i64 0, .int .i64 0, .int .i64 0, .int .i64 0, .int .u32 0, .int .u32 0, .int .u32 0, .int .u64 0, .int .u64 0, .int .u64 0, .int .u64 0, .slice none 0 0, .slice none 0 0, .bool false]) (T := 51) rfl rfl rfl (by go_simp; try with_reducible rfl) ?_; intro gy wr hg hBy hbn; have hgy : ya.heap.size <= gy := Nat.le_trans hH.size hg; replace hH := hH.trans (hbn.mono hH.size); refine ⟨hH, ?_⟩; try simp only [qp, qn]
      clear hbn hg; refine relist (L' := #[true, true, true, false, true, false, false, false, false, false, false, true, false, false, false]) (by kernel_rfl) ?_; revert hBy; revert hgy; revert hH; revert wr; revert gy; exact h001
   case g100 =>
    intro An cn wq hH hN; refine take_or3 (i := 5) (j := 10) (k := 11) (by kernel_rfl) ?_ ?_ ?_
    · refine op_make (j := 5) (d := some 99) (R := fun v u => v = .tuple #[.agg #[.slice none 0 0, .slice none 0 0, .slice none 0 0, .slice none 0 0, .int .i64 0, .int .i64 0], .agg #[.int .i64 0, .int .i64 0, .int .i64 0, .int .i64 0, .int .i64 0, .int .i64 0, .int .u32 0, .int .u32 0, .int .u32 0, .int .u64 0, .int .u64 0, .int .u64 0, .int .u64 0, .slice none 0 0, .slice none 0 0, .bool false], .int .i64 7] ∧ Below wq.heap.size wq u) rfl rfl rfl (by go_simp) ((answer_ok _ ⟨kUp z, kDn z, addL c0 rest ML, c0, 1, 1⟩ An cn (wbytesL z5 32) U1 Ab nb cb 4 HZg.out ML NA _ (HJF.out.stays hH) HJFO.out hN (HBb.out.stays hH) HNA.out HU1.out HM4.out HM8.out).mono (fun e q h => ?_)) ?_
      · obtain ⟨(⟨he, _⟩ | ⟨_, rfl⟩), h2⟩ := h
        · exact absurd he HAP.out
        · exact ⟨_, rfl, rfl, h2⟩
      rintro _ wr ⟨rfl, hbn⟩; clear hN; replace hH := hH.trans (hbn.mono hH.size); refine ⟨hH, ?_⟩; try simp only [qp, qn]
      clear hbn; refine qv (i := 6) (d := some 93) (v := .tuple #[.agg #[.slice none 0 0, .slice none 0 0, .slice none 0 0, .slice none 0 0, .int .i64 0, .int .i64 0], .agg #[.int .i64 0, .int .i64 0, .int .i64 0, .int .i64 0, .int .i64 0, .int .i64 0, .int .u32 0, .int .u32 0, .int .u32 0, .int .u64 0, .int .u64 0, .int .u64 0, .int .u64 0, .slice none 0 0, .slice none 0 0, .bool false], .int .i64 7]) rfl rfl (by kernel_rfl) hPQ (fun u hu => ?_) hH ?_
      · go_simp; try with_reducible rfl
      try simp only [qp, qn]
      refine qv (i := 7) (d := some 100) (v := .agg #[.slice none 0 0, .slice none 0 0, .slice none 0 0, .slice none 0 0, .int .i64 0, .int .i64 0]) rfl rfl (by kernel_rfl) hPQ (fun u hu => ?_) hH ?_
      · go_simp; try with_reducible rfl
      try simp only [qp, qn]
      refine qv (i := 8) (d := some 101) (v := .agg #[.int .i64 0, .int .i64 0, .int .i64 0, .int .i64 0, .int .i64 0, .int .i64 0, .int .u32 0, .int .u32 0, .int .u32 0, .int .u64 0, .int .u64 0, .int .u64 0, .int .u64 0, .slice none 0 0, .slice none 0 0, .bool false]) rfl rfl (by kernel_rfl) hPQ (fun u hu => ?_) hH ?_
      · go_simp; try with_reducible rfl
      try simp only [qp, qn]
      refine qv (i := 9) (d := some 102) (v := .int .i64 7) rfl rfl (by kernel_rfl) hPQ (fun u hu => ?_) hH ?_
      · go_simp; try with_reducible rfl
      try simp only [qp, qn]
      refine relist (L' := #[true, true, true, true, true, true, true, true, true, true, false, false, false, false, false]) (by kernel_rfl) ?_; revert hH; revert wr; revert cn; revert An; exact h200
    · refine op_alloc (i := 10) (di := some 25) (z := #[.slice none 0 0, .slice none 0 0, .slice none 0 0, .slice none 0 0, .int .i64 0, .int .i64 0]) (T := 36) rfl rfl rfl (by go_simp; try with_reducible rfl) ?_; intro gx wr hg hBx hbn; have hgx : ya.heap.size <= gx := Nat.le_trans hH.size hg; replace hH := hH.trans (hbn.mono hH.size); replace hN := hN.stays hbn; refine ⟨hH, ?_⟩; try simp only [qp, qn]
      clear hbn hg; refine relist (L' := #[true, true, true, true, true, false, false, false, false, false, true, false, false, false, false]) (by kernel_rfl) ?_; revert hBx; revert hgx; revert hN; revert hH; revert wr; revert gx; revert cn; revert An; exact h110
    · refine op_alloc (i := 11) (di := some 26) (z := #[.int .i64 0, .int .i64 0, .int .i64 0, .int .i64 0, .int .i64 0, .int .i64 0, .int .u32 0, .int .u32 0, .int .u32 0, .int .u64 0, .int .u64 0, .int .u64 0, .int .u64 0, .slice none 0 0, .slice none 0 0, .bool false]) (T := 51) rfl rfl rfl (by go_simp; try with_reducible rfl) ?_; intro gy wr hg hBy hbn; have hgy : ya.heap.size <= gy := Nat.le_trans hH.size hg; replace hH := hH.trans (hbn.mono hH.size); replace hN := hN.stays hbn; refine ⟨hH, ?_⟩; try simp only [qp, qn]
      clear hbn hg; refine relist (L' := #[true, true, true, true, true, false, false, false, false, false, false, true, false, false, false]) (by kernel_rfl) ?_; revert hBy; revert hgy; revert hN; revert hH; revert wr; revert gy; revert cn; revert An; exact h101
   case g010 =>
    intro gx wq hH hgx hBx; refine take_or (i := 3) (j := 11) (by kernel_rfl) ?_ ?_
    · refine op_make (j := 3) (d := some 97) (R := fun v u => ∃ An cn, v = .slice An 32 cn ∧ Bytes u An 32 cn (wbytesL z5 32) ∧ Below wq.heap.size wq u) rfl rfl rfl (by go_simp) ((wbytes_new z5 32 _ HZd.out HZe.out HZf.out).mono (fun e q h => ?_)) ?_
      · obtain ⟨A', c', rfl, h1, _, h2⟩ := h; exact ⟨_, rfl, A', c', rfl, h1, h2⟩
      rintro _ wr ⟨An, cn, rfl, hN, hbn⟩; replace hH := hH.trans (hbn.mono hH.size); replace hBx := hBx.stays hbn; refine ⟨hH, ?_⟩; try simp only [qp, qn]
      clear hbn; refine relist (L' := #[true, true, true, true, true, false, false, false, false, false, true, false, false, false, false]) (by kernel_rfl) ?_; revert hBx; revert hgx; revert hN; revert hH; revert wr; revert gx; revert cn; revert An; exact h110
    · refine op_alloc (i := 11) (di := some 26) (z := #[.int .i64 0, .int .i64 0, .int .i64 0, .int .i64 0, .int .i64 0, .int .i64 0, .int .u32 0, .int .u32 0, .int .u32 0, .int .u64 0, .int .u64 0, .int .u64 0, .int .u64 0, .slice none 0 0, .slice none 0 0, .bool false]) (T := 51) rfl rfl rfl (by go_simp; try with_reducible rfl) ?_; intro gy wr hg hBy hbn; have hgy : ya.heap.size <= gy := Nat.le_trans hH.size hg; have hne : gx ≠ gy := Nat.ne_of_lt (Nat.lt_of_lt_of_le hBx.lt hg); replace hH := hH.trans (hbn.mono hH.size); replace hBx := hBx.stays hbn; refine ⟨hH, ?_⟩; try simp only [qp, qn]
      clear hbn hg; refine relist (L' := #[true, true, true, false, true, false, false, false, false, false, true, true, false, false, false]) (by kernel_rfl) ?_; revert hne; revert hBy; revert hgy; revert hBx; revert hgx; revert hH; revert wr; revert gy; revert gx; exact h011
   case g001 =>
    intro gy wq hH hgy hBy; refine take_or (i := 3) (j := 10) (by kernel_rfl) ?_ ?_
    · refine op_make (j := 3) (d := some 97) (R := fun v u => ∃ An cn, v = .slice An 32 cn ∧ Bytes u An 32 cn (wbytesL z5 32) ∧ Below wq.heap.size wq u) rfl rfl rfl (by go_simp) ((wbytes_new z5 32 _ HZd.out HZe.out HZf.out).mono (fun e q h => ?_)) ?_
      · obtain ⟨A', c', rfl, h1, _, h2⟩ := h; exact ⟨_, rfl, A', c', rfl, h1, h2⟩
      rintro _ wr ⟨An, cn, rfl, hN, hbn⟩; replace hH := hH.trans (hbn.mono hH.size); replace hBy := hBy.stays hbn; refine ⟨hH, ?_⟩; try simp only [qp, qn]
      clear hbn; refine relist (L' := #[true, true, true, true, true, false, false, false, false, false, false, true, false, false, false]) (by kernel_rfl) ?_; revert hBy; revert hgy; revert hN; revert hH; revert wr; revert gy; revert cn; revert An; exact h101
    · refine op_alloc (i := 10) (di := some 25) (z := #[.slice none 0 0, .slice none 0 0, .slice none 0 0, .slice none 0 0, .int .i64 0, .int .i64 0]) (T := 36) rfl rfl rfl (by go_simp; try with_reducible rfl) ?_; intro gx wr hg hBx hbn; have hgx : ya.heap.size <= gx := Nat.le_trans hH.size hg; have hne : gx ≠ gy := Nat.ne_of_gt (Nat.lt_of_lt_of_le hBy.lt hg); replace hH := hH.trans (hbn.mono hH.size); replace hBy := hBy.stays hbn; refine ⟨hH, ?_⟩; try simp only [qp, qn]
      clear hbn hg; refine relist (L' := #[true, true, true, false, true, false, false, false, false, false, true, true, false, false, false]) (by kernel_rfl) ?_; revert hne; revert hBy; revert hgy; revert hBx; revert hgx; revert hH; revert wr; revert gy; revert gx; exact h011
   case g200 =>
    intro An cn wq hH; refine take_or (i := 10) (j := 11) (by kernel_rfl) ?_ ?_
    · refine op_alloc (i := 10) (di := some 25) (z := #[.slice none 0 0, .slice none 0 0, .slice none 0 0, .slice none 0 0, .int .i64 0, .int .i64 0]) (T := 36) rfl rfl rfl (by go_simp; try with_reducible rfl) ?_; intro gx wr hg hBx hbn; have hgx : ya.heap.size <= gx := Nat.le_trans hH.size hg; replace hH := hH.trans (hbn.mono hH.size); refine ⟨hH, ?_⟩; try simp only [qp, qn]
      clear hbn hg; refine relist (L' := #[true, true, true, true, true, true, true, true, true, true, true, false, false, false, false]) (by kernel_rfl) ?_; revert hBx; revert hgx; revert hH; revert wr; revert gx; revert cn; revert An; exact h210
    · refine op_alloc (i := 11) (di := some 26) (z := #[.int .i64 0, .int .i64 0, .int .i64 0, .int .i64 0, .int .i64 0, .int .i64 0, .int .u32 0, .int .u32 0, .int .u32 0, .int .u64 0, .int .u64 0, .int .u64 0, .int .u64 0, .slice none 0 0, .slice none 0 0, .bool false]) (T := 51) rfl rfl rfl (by go_simp; try with_reducible rfl) ?_; intro gy wr hg hBy hbn; have hgy : ya.heap.size <= gy := Nat.le_trans hH.size hg; replace hH := hH.trans (hbn.mono hH.size); refine ⟨hH, ?_⟩; try simp only [qp, qn]
      clear hbn hg; refine relist (L' := #[true, true, true, true, true, true, true, true, true, true, false, true, false, false, false]) (by kernel_rfl) ?_; revert hBy; revert hgy; revert hH; revert wr; revert gy; revert cn; revert An; exact h201
   case g110 =>
    intro An cn gx wq hH hN hgx hBx; refine take_or (i := 5) (j := 11) (by kernel_rfl) ?_ ?_
    · refine op_make (j := 5) (d := some 99) (R := fun v u => v = .tuple #[.agg #[.slice none 0 0, .slice none 0 0, .slice none 0 0, .slice none 0 0, .int .i64 0, .int .i64 0], .agg #[.int .i64 0, .int .i64 0, .int .i64 0, .int .i64 0, .int .i64 0, .int .i64 0, .int .u32 0, .int .u32 0, .int .u32 0, .int .u64 0, .int .u64 0, .int .u64 0, .int .u64 0, .slice none 0 0, .slice none 0 0, .bool false], .int .i64 7] ∧ Below wq.heap.size wq u) rfl rfl rfl (by go_simp) ((answer_ok _ ⟨kUp z, kDn z, addL c0 rest ML, c0, 1, 1⟩ An cn (wbytesL z5 32) U1 Ab nb cb 4 HZg.out ML NA _ (HJF.out.stays hH) HJFO.out hN (HBb.out.stays hH) HNA.out HU1.out HM4.out HM8.out).mono (fun e q h => ?_)) ?_
      · obtain ⟨(⟨he, _⟩ | ⟨_, rfl⟩), h2⟩ := h
        · exact absurd he HAP.out
        · exact ⟨_, rfl, rfl, h2⟩
      rintro _ wr ⟨rfl, hbn⟩; clear hN; replace hH := hH.trans (hbn.mono hH.size); replace hBx := hBx.stays hbn; refine ⟨hH, ?_⟩; try simp only [qp, qn]
      clear hbn; refine qv (i := 6) (d := some 93) (v := .tuple #[.agg #[.slice none 0 0, .slice none 0 0, .slice none 0 0, .slice none 0 0, .int .i64 0, .int .i64 0], .agg #[.int .i64 0, .int .i64 0, .int .i64 0, .int .i64 0, .int .i64 0, .int .i64 0, .int .u32 0, .int .u32 0, .int .u32 0, .int .u64 0, .int .u64 0, .int .u64 0, .int .u64 0, .slice none 0 0, .slice none 0 0, .bool false], .int .i64 7]) rfl rfl (by kernel_rfl) hPQ (fun u hu => ?_) hH ?_
      · go_simp; try with_reducible rfl
      try simp only [qp, qn]
      refine qv (i := 7) (d := some 100) (v := .agg #[.slice none 0 0, .slice none 0 0, .slice none 0 0, .slice none 0 0, .int .i64 0, .int .i64 0]) rfl rfl (by kernel_rfl) hPQ (fun u hu => ?_) hH ?_
      · go_simp; try with_reducible rfl
      try simp only [qp, qn]
      refine qv (i := 8) (d := some 101) (v := .agg #[.int .i64 0, .int .i64 0, .int .i64 0, .int .i64 0, .int .i64 0, .int .i64 0, .int .u32 0, .int .u32 0, .int .u32 0, .int .u64 0, .int .u64 0, .int .u64 0, .int .u64 0, .slice none 0 0, .slice none 0 0, .bool false]) rfl rfl (by kernel_rfl) hPQ (fun u hu => ?_) hH ?_
      · go_simp; try with_reducible rfl
      try simp only [qp, qn]
      refine qv (i := 9) (d := some 102) (v := .int .i64 7) rfl rfl (by kernel_rfl) hPQ (fun u hu => ?_) hH ?_
      · go_simp; try with_reducible rfl
      try simp only [qp, qn]
      refine relist (L' := #[true, true, true, true, true, true, true, true, true, true, true, false, false, false, false]) (by kernel_rfl) ?_; revert hBx; revert hgx; revert hH; revert wr; revert gx; revert cn; revert An; exact h210
    · refine op_alloc (i := 11) (di := some 26) (z := #[.int .i64 0, .int .i64 0, .int .i64 0, .int .i64 0, .int .i64 0, .int .i64 0, .int .u32 0, .int .u32 0, .int .u32 0, .int .u64 0, .int .u64 0, .int .u64 0, .int .u64 0, .slice none 0 0, .slice none 0 0, .bool false]) (T := 51) rfl rfl rfl (by go_simp; try with_reducible rfl) ?_; intro gy wr hg hBy hbn; have hgy : ya.heap.size <= gy := Nat.le_trans hH.size hg; have hne : gx ≠ gy := Nat.ne_of_lt (Nat.lt_of_lt_of_le hBx.lt hg); replace hH := hH.trans (hbn.mono hH.size); replace hBx := hBx.stays hbn; replace hN := hN.stays hbn; refine ⟨hH, ?_⟩; try simp only [qp, qn]
      clear hbn hg; refine relist (L' := #[true, true, true, true, true, false, false, false, false, false, true, true, false, false, false]) (by kernel_rfl) ?_; revert hne; revert hBy; revert hgy; revert hBx; revert hgx; revert hN; revert hH; revert wr; revert gy; revert gx; revert cn; revert An; exact h111
   case g101 =>
    intro An cn gy wq hH hN hgy hBy; refine take_or (i := 5) (j := 10) (by kernel_rfl) ?_ ?_
    · refine op_make (j := 5) (d := some 99) (R := fun v u => v = .tuple #[.agg #[.slice none 0 0, .slice none 0 0, .slice none 0 0, .slice none 0 0, .int .i64 0, .int .i64 0], .agg #[.int .i64 0, .int .i64 0, .int .i64 0, .int .i64 0, .int .i64 0, .int .i64 0, .int .u32 0, .int .u32 0, .int .u32 0, .int .u64 0, .int .u64 0, .int .u64 0, .int .u64 0, .slice none 0 0, .slice none 0 0, .bool false], .int .i64 7] ∧ Below wq.heap.size wq u) rfl rfl rfl (by go_simp) ((answer_ok _ ⟨kUp z, kDn z, addL c0 rest ML, c0, 1, 1⟩ An cn (wbytesL z5 32) U1 Ab nb cb 4 HZg.out ML NA _ (HJF.out.stays hH) HJFO.out hN (HBb.out.stays hH) HNA.out HU1.out HM4.out HM8.out).mono (fun e q h => ?_)) ?_
      · obtain ⟨(⟨he, _⟩ | ⟨_, rfl⟩), h2⟩ := h
        · exact absurd he HAP.out
        · exact ⟨_, rfl, rfl, h2⟩
      rintro _ wr ⟨rfl, hbn⟩; clear hN; replace hH := hH.trans (hbn.mono hH.size); replace hBy := hBy.stays hbn; refine ⟨hH, ?_⟩; try simp only [qp, qn]
      clear hbn; refine qv (i := 6) (d := some 93) (v := .tuple #[.agg #[.slice none 0 0, .slice none 0 0, .slice none 0 0, .slice none 0 0, .int .i64 0, .int .i64 0], .agg #[.int .i64 0, .int .i64 0, .int .i64 0, .int .i64 0, .int .i64 0, .int .i64 0, .int .u32 0, .int .u32 0, .int .u32 0, .int .u64 0, .int .u64 0, .int .u64 0, .int .u64 0, .slice none 0 0, .slice none 0 0, .bool false], .int .i64 7]) rfl rfl (by kernel_rfl) hPQ (fun u hu => ?_) hH ?_
      · go_simp; try with_reducible rfl
      try simp only [qp, qn]
      refine qv (i := 7) (d := some 100) (v := .agg #[.slice none 0 0, .slice none 0 0, .slice none 0 0, .slice none 0 0, .int .i64 0, .int .i64 0]) rfl rfl (by kernel_rfl) hPQ (fun u hu => ?_) hH ?_
      · go_simp; try with_reducible rfl
      try simp only [qp, qn]
      refine qv (i := 8) (d := some 101) (v := .agg #[.int .i64 0, .int .i64 0, .int .i64 0, .int .i64 0, .int .i64 0, .int .i64 0, .int .u32 0, .int .u32 0, .int .u32 0, .int .u64 0, .int .u64 0, .int .u64 0, .int .u64 0, .slice none 0 0, .slice none 0 0, .bool false]) rfl rfl (by kernel_rfl) hPQ (fun u hu => ?_) hH ?_
      · go_simp; try with_reducible rfl
      try simp only [qp, qn]
      refine qv (i := 9) (d := some 102) (v := .int .i64 7) rfl rfl (by kernel_rfl) hPQ (fun u hu => ?_) hH ?_
      · go_simp; try with_reducible rfl
      try simp only [qp, qn]
      refine relist (L' := #[true, true, true, true, true, true, true, true, true, true, false, true, false, false, false]) (by kernel_rfl) ?_; revert hBy; revert hgy; revert hH; revert wr; revert gy; revert cn; revert An; exact h201
    · refine op_alloc (i := 10) (di := some 25) (z := #[.slice none 0 0, .slice none 0 0, .slice none 0 0, .slice none 0 0, .int .i64 0, .int .i64 0]) (T := 36) rfl rfl rfl (by go_simp; try with_reducible rfl) ?_; intro gx wr hg hBx hbn; have hgx : ya.heap.size <= gx := Nat.le_trans hH.size hg; have hne : gx ≠ gy := Nat.ne_of_gt (Nat.lt_of_lt_of_le hBy.lt hg); replace hH := hH.trans (hbn.mono hH.size); replace hBy := hBy.stays hbn; replace hN := hN.stays hbn; refine ⟨hH, ?_⟩; try simp only [qp, qn]
      clear hbn hg; refine relist (L' := #[true, true, true, true, true, false, false, false, false, false, true, true, false, false, false]) (by kernel_rfl) ?_; revert hne; revert hBy; revert hgy; revert hBx; revert hgx; revert hN; revert hH; revert wr; revert gy; revert gx; revert cn; revert An; exact h111
   case g011 =>
    intro gx gy wq hH hgx hBx hgy hBy hne; refine take_one (i := 3) (by kernel_rfl) ?_; refine op_make (j := 3) (d := some 97) (R := fun v u => ∃ An cn, v = .slice An 32 cn ∧ Bytes u An 32 cn (wbytesL z5 32) ∧ Below wq.heap.size wq u) rfl rfl rfl (by go_simp) ((wbytes_new z5 32 _ HZd.out HZe.out HZf.out).mono (fun e q h => ?_)) ?_
    · obtain ⟨A', c', rfl, h1, _, h2⟩ := h; exact ⟨_, rfl, A', c', rfl, h1, h2⟩
    rintro _ wr ⟨An, cn, rfl, hN, hbn⟩; replace hH := hH.trans (hbn.mono hH.size); replace hBx := hBx.stays hbn; replace hBy := hBy.stays hbn; refine ⟨hH, ?_⟩; try simp only [qp, qn]
    clear hbn; refine relist (L' := #[true, true, true, true, true, false, false, false, false, false, true, true, false, false, false]) (by kernel_rfl) ?_; revert hne; revert hBy; revert hgy; revert hBx; revert hgx; revert hN; revert hH; revert wr; revert gy; revert gx; revert cn; revert An; exact h111
   case g210 =>
    intro An cn gx wq hH hgx hBx; refine take_one (i := 11) (by kernel_rfl) ?_; refine op_alloc (i := 11) (di := some 26) (z := #[.int .i64 0, .int .i64 0, .int .i64 0, .int .i64 0, .int .i64 0, .int .i64 0, .int .u32 0, .int .u32 0, .int .u32 0, .int .u64 0, .int .u64 0, .int .u64 0, .int .u64 0, .slice none 0 0, .slice none 0 0, .bool false]) (T := 51) rfl rfl rfl (by go_simp; try with_reducible rfl) ?_; intro gy wr hg hBy hbn; have hgy : ya.heap.size <= gy := Nat.le_trans hH.size hg; have hne : gx ≠ gy := Nat.ne_of_lt (Nat.lt_of_lt_of_le hBx.lt hg); replace hH := hH.trans (hbn.mono hH.size); replace hBx := hBx.stays hbn; refine ⟨hH, ?_⟩; try simp only [qp, qn]
    clear hbn hg; refine relist (L' := #[true, true, true, true, true, true, true, true, true, true, true, true, false, false, false]) (by kernel_rfl) ?_; revert hne; revert hBy; revert hgy; revert hBx; revert hgx; revert hH; revert wr; revert gy; revert gx; revert cn; revert An; exact h211
   case g201 =>
    intro An cn gy wq hH hgy hBy; refine take_one (i := 10) (by kernel_rfl) ?_; refine op_alloc (i := 10) (di := some 25) (z := #[.slice none 0 0, .slice none 0 0, .slice none 0 0, .slice none 0 0, .int .i64 0, .int .i64 0]) (T := 36) rfl rfl rfl (by go_simp; try with_reducible rfl) ?_; intro gx wr hg hBx hbn; have hgx : ya.heap.size <= gx := Nat.le_trans hH.size hg; have hne : gx ≠ gy := Nat.ne_of_gt (Nat.lt_of_lt_of_le hBy.lt hg); replace hH := hH.trans (hbn.mono hH.size); replace hBy := hBy.stays hbn; refine ⟨hH, ?_⟩; try simp only [qp, qn]
    clear hbn hg; refine relist (L' := #[true, true, true, true, true, true, true, true, true, true, true, true, false, false, false]) (by kernel_rfl) ?_; revert hne; revert hBy; revert hgy; revert hBx; revert hgx; revert hH; revert wr; revert gy; revert gx; revert cn; revert An; exact h211
   case g111 =>
    intro An cn gx gy wq hH hN hgx hBx hgy hBy hne; refine take_one (i := 5) (by kernel_rfl) ?_; refine op_make (j := 5) (d := some 99) (R := fun v u => v = .tuple #[.agg #[.slice none 0 0, .slice none 0 0, .slice none 0 0, .slice none 0 0, .int .i64 0, .int .i64 0], .agg #[.int .i64 0, .int .i64 0, .int .i64 0, .int .i64 0, .int .i64 0, .int .i64 0, .int .u32 0, .int .u32 0, .int .u32 0, .int .u64 0, .int .u64 0, .int .u64 0, .int .u64 0, .slice none 0 0, .slice none 0 0, .bool false], .int .i64 7] ∧ Below wq.heap.size wq u) rfl rfl rfl (by go_simp) ((answer_ok _ ⟨kUp z, kDn z, addL c0 rest ML, c0, 1, 1⟩ An cn (wbytesL z5 32) U1 Ab nb cb 4 HZg.out ML NA _ (HJF.out.stays hH) HJFO.out hN (HBb.out.stays hH) HNA.out HU1.out HM4.out HM8.out).mono (fun e q h => ?_)) ?_
    · obtain ⟨(⟨he, _⟩ | ⟨_, rfl⟩), h2⟩ := h
      · exact absurd he HAP.out
      · exact ⟨_, rfl, rfl, h2⟩
    rintro _ wr ⟨rfl, hbn⟩; clear hN; replace hH := hH.trans (hbn.mono hH.size); replace hBx := hBx.stays hbn; replace hBy := hBy.stays hbn; refine ⟨hH, ?_⟩; try simp only [qp, qn]
    clear hbn; refine qv (i := 6) (d := some 93) (v := .tuple #[.agg #[.slice none 0 0, .slice none 0 0, .slice none 0 0, .slice none 0 0, .int .i64 0, .int .i64 0], .agg #[.int .i64 0, .int .i64 0, .int .i64 0, .int .i64 0, .int .i64 0, .int .i64 0, .int .u32 0, .int .u32 0, .int .u32 0, .int .u64 0, .int .u64 0, .int .u64 0, .int .u64 0, .slice none 0 0, .slice none 0 0, .bool false], .int .i64 7]) rfl rfl (by kernel_rfl) hPQ (fun u hu => ?_) hH ?_
    · go_simp; try with_reducible rfl
    try simp only [qp, qn]
    refine qv (i := 7) (d := some 100) (v := .agg #[.slice none 0 0, .slice none 0 0, .slice none 0 0, .slice none 0 0, .int .i64 0, .int .i64 0]) rfl rfl (by kernel_rfl) hPQ (fun u hu => ?_) hH ?_
    · go_simp; try with_reducible rfl
    try simp only [qp, qn]
    refine qv (i := 8) (d := some 101) (v := .agg #[.int .i64 0, .int .i64 0, .int .i64 0, .int .i64 0, .int .i64 0, .int .i64 0, .int .u32 0, .int .u32 0, .int .u32 0, .int .u64 0, .int .u64 0, .int .u64 0, .int .u64 0, .slice none 0 0, .slice none 0 0, .bool false]) rfl rfl (by kernel_rfl) hPQ (fun u hu => ?_) hH ?_
    · go_simp; try with_reducible rfl
    try simp only [qp, qn]
    refine qv (i := 9) (d := some 102) (v := .int .i64 7) rfl rfl (by kernel_rfl) hPQ (fun u hu => ?_) hH ?_
    · go_simp; try with_reducible rfl
    try simp only [qp, qn]
    refine relist (L' := #[true, true, true, true, true, true, true, true, true, true, true, true, false, false, false]) (by kernel_rfl) ?_; revert hne; revert hBy; revert hgy; revert hBx; revert hgx; revert hH; revert wr; revert gy; revert gx; revert cn; revert An; exact h211
   case g211 =>
   intro An cn gx gy wq hH hgx hBx hgy hBy hne; refine take_store_part2 (j := 12) rfl rfl (by kernel_rfl) rfl 36 _ _ rfl gx 0 36 [] [.slice none 0 0, .slice none 0 0, .slice none 0 0, .slice none 0 0, .int .i64 0, .int .i64 0] [] [.slice none 0 0, .slice none 0 0, .slice none 0 0, .slice none 0 0, .int .i64 0, .int .i64 0] rfl rfl hBx rfl rfl infoJar (by simp [Value.oneCell']) (fun u _ hu => hH.grown hu hH.size (fun k hk => by cases hk; exact hgx)) (fun wg E7 G7 => ?_); clear E7; try simp only [qp, qn]
   have hHg := hH.grown G7 hH.size (fun k hk => by cases hk; exact hgx); have hBy2 := hBy.grown G7 (by simp; omega); refine take_store_part2 (j := 13) rfl rfl (by kernel_rfl) rfl 51 _ _ rfl gy 0 51 [] [.int .i64 0, .int .i64 0, .int .i64 0, .int .i64 0, .int .i64 0, .int .i64 0, .int .u32 0, .int .u32 0, .int .u32 0, .int .u64 0, .int .u64 0, .int .u64 0, .int .u64 0, .slice none 0 0, .slice none 0 0, .bool false] [] [.int .i64 0, .int .i64 0, .int .i64 0, .int .i64 0, .int .i64 0, .int .i64 0, .int .u32 0, .int .u32 0, .int .u32 0, .int .u64 0, .int .u64 0, .int .u64 0, .int .u64 0, .slice none 0 0, .slice none 0 0, .bool false] rfl rfl hBy2 rfl rfl infoPk (by simp [Value.oneCell']) (fun u _ hu => hHg.grown hu hHg.size (fun k hk => by cases hk; exact hgy)) (fun wh E8 G8 => ?_); clear E8; try simp only [qp, qn]
   have hHh := hHg.grown G8 hHg.size (fun k hk => by cases hk; exact hgy); refine take_do (j := 14) (d := some 27) (v := .int .i64 7) (w2 := wh) rfl rfl (by kernel_rfl) rfl (Or.inl (by go_simp; try with_reducible rfl)) hHh ?_; try simp only [qp, qn]
   refine wpAnyH_done (by kernel_rfl) ?_ _; clear hPQ hH hgx hgy hBx hBy hne G7 G8 hHg hBy2; have HBa := qs HBa hHh; have HBb := qs HBb hHh; have RW := qt RW hHh; clear hHh HJF BF ez5
   go_wp2_with fail
   refine (roused_any _).mono ?_; rintro e yr ⟨rfl, hb⟩; have HBa := qs HBa hb; have HBb := qs HBb hb; have RW := qt RW hb; clear hb
   go_wp2_with fail
   refine (refSame_true HBa.out HBb.out rfl).mono ?_; rintro e yt ⟨rfl, rfl⟩
   go_wp2_with fail
   go_ret; exact ⟨rfl, RW.out⟩
 · exact absurd rfl hne
end Go.Proofs.YtiemnacoebkalaaGreat
