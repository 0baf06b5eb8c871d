import Derived.Test.YtiemnacoebkalaaGreatTaV05
import Derived.Test.YtiemnacoebkalaaGreatTaV24
set_option linter.all false
set_option maxRecDepth 100000
set_option maxHeartbeats 4000000
namespace Go.Proofs.YtiemnacoebkalaaGreat
open Go Go.RowKit
theorem keys_next (ks : List UInt8) (r q : Nat) (h : ks.length = 176) (hr : r < 11) (hq : 16 * r = q) : (ks.take q ++ List.replicate (176 - q) 0).take q ++ keyAt ks r ++ (ks.take q ++ List.replicate (176 - q) 0).drop (q + 16) = ks.take (q + 16) ++ List.replicate (176 - (q + 16)) 0 := by
 have e1 : (ks.take q).length = q := by rw [List.length_take]; omega
 have e2 : (ks.take q ++ List.replicate (176 - q) 0).take q = ks.take q := by
  rw [List.take_append_of_le_length (by omega)]; exact List.take_of_length_le (by omega)
 have e3 : (ks.take q ++ List.replicate (176 - q) (0 : UInt8)).drop (q + 16) = List.replicate (176 - (q + 16)) 0 := by
  rw [List.drop_append, List.drop_eq_nil_of_le (by omega), List.nil_append, List.drop_replicate, e1]
  congr 1
  omega
 rw [e2, e3, List.take_add]; unfold keyAt; rw [hq]
theorem turnW_length (ws : List UInt8) (con : UInt8) (i : Nat) : (turnW ws con i).length = 4 := by unfold turnW; split <;> rfl
theorem storesG {w : World} {g : Nat} (vs : List Value) : w.grownBy (stores w g vs 0) (some g) := by
 have h := Below.stores (B := g) (w0 := w) (Nat.le_refl g) vs w 0 (Below.refl g w); have hh : ∀ (vs : List Value) (w : World) (k i : Nat), i ≠ g -> (stores w g vs k).heap[i]? = w.heap[i]? := by
  intro vs
  induction vs with
  | nil => intro w k i hi; rfl
  | cons v vs ih => intro w k i hi; rw [stores, ih _ _ _ hi]; exact Below.heap_setCell _ _ _ _ hi
 exact ⟨h.os, h.tape, h.output, h.size, fun i _ hi => hh vs w 0 i (fun e => hi (by rw [e]))⟩
theorem bytes_at {w : World} {g n c : Nat} {l : List UInt8} (h : Bytes w (some ⟨g, 0, none⟩) n c l) (hg : g < w.heap.size) : At w g 0 l := ⟨hg, fun i hi => by
 obtain ⟨b, off, e, hc⟩ := h.at_ (show i < n by rw [<- h.len]; exact hi); injection e with e
 injection e with e1 e2
 rw [<- e1, <- e2] at hc; exact hc⟩
theorem zero176 : Tryz.zeroCells243 = bytesC (List.replicate 176 0) := by kernel_rfl
theorem aesNew_any (A : Option Addr) (c : Nat) (key : List UInt8) (w : World) (hv : Bytes w A 16 c key) : Calls Tryz.prog 151 #[.slice A 16 c] w fun e w' => ∃ g, e = .returned (.pointer (some ⟨g, 0, none⟩)) ∧ w.heap.size <= g ∧ Blk w' g 243 (bytesC (keysB key)) ∧ Below w.heap.size w w' := by
 have HV := qq hv; have hc := hv.le; have hc2 := hv.cap; have hc3 : (16 : Int) <= (c : Int) := by omega
 have HKL := qq hv.len; obtain ⟨i0, hi, hz0, hz1, hz2⟩ := info_parts infoByteA; clear hv
 go_enter Tryz.func151, Tryz.ntmps151
 go_wp2_with fail
 refine (clone_any _ _ _ _ _ HV.out (by decide)).mono ?_; rintro e w1 ⟨A1, c1, rfl, ho1, hb1⟩
 go_wp2_with fail
 refine (grow_own _ _ _ 160 w.heap.size _ _ ho1 (by decide) (by decide) (by decide) hb1.size).mono ?_; rintro e w2 ⟨A2, c2, rfl, ho2, hb2⟩; have R2 := qq (hb1.trans (hb2.mono hb1.size)); have HO2 := qq ho2; clear ho1 hb1 ho2 hb2
 go_wp2_with fail
 go_loopw [3, 4, 5] (fun sw sc i wr => ∃ (m M : Nat) (A : Option Addr) (c : Nat), m <= 40 ∧ M = m + 4 ∧ i = .int .i64 M ∧ sw = .slice A (16 + 4 * m) c ∧ sc = .int .u8 (wordsB key m).2.toNat ∧ Hid (wr.ownsRow w.heap.size 5 1 (.slice A (16 + 4 * m) c) (16 + 4 * m) ((wordsB key m).1.map byteV)) ∧ Below w.heap.size w wr) (fun _ _ i _ => 44 - (intOf i).toNat)
 case atStart => exact ⟨0, 4, A2, c2, by omega, rfl, rfl, rfl, rfl, HO2.out, R2.out⟩
 case round =>
  clear HO2 R2; obtain ⟨m, M, A3, c3, hm, hM, rfl, rfl, rfl, HO, hbr⟩ := hrel; have HM := qq hM; have RW := qq hbr; have hz_wr := RW.out.size; clear hbr
  by_cases hm40 : m < 40
  · have i44 : (M : Int) < 44 := by omega
    have hwl := wordsB_length key m; rw [HKL.out] at hwl; obtain ⟨ws, hws⟩ : ∃ ws, (wordsB key m).1 = ws := ⟨_, rfl⟩; obtain ⟨con, hcon⟩ : ∃ con, (wordsB key m).2 = con := ⟨_, rfl⟩; have HN : Hid (wordsB key (m + 1) = (moreW (turnW ws con (m + 4)) (m + 4) ws 4, if (m + 4) % 4 = 0 then dblU con else con)) := by unfold Hid; rw [wordsB, hws, hcon]
    rw [hws] at HO hwl; rw [hcon]; clear hws hcon; obtain ⟨n, hn⟩ : ∃ n, 16 + 4 * m = n := ⟨_, rfl⟩; rw [hn] at HO hwl ⊢; obtain ⟨g, cur, rfl, hg, hblk, hnc, hcm, hcs, htk⟩ := own_row HO.out (by omega); unfold maxLen at hcm; have HBy := qq (show Bytes wr (some ⟨g, 0, none⟩) n c3 ws from own_rd HO.out); have hcell : ∀ j, j < n -> wr.cell? ⟨g, j, none⟩ = some (.int .u8 (byteAt ws j)) := by
     intro j hj; obtain ⟨b, off, e, h⟩ := HBy.out.at_ hj; injection e with e
     injection e with e1 e2
     subst e1 e2; rw [Nat.zero_add] at h; exact h
    obtain ⟨p, hp⟩ : ∃ p, 4 * m + 12 = p := ⟨_, rfl⟩; obtain ⟨x0, hx0⟩ : ∃ x, bU ws p = x := ⟨_, rfl⟩; obtain ⟨x1, hx1⟩ : ∃ x, bU ws (p + 1) = x := ⟨_, rfl⟩; obtain ⟨x2, hx2⟩ : ∃ x, bU ws (p + 2) = x := ⟨_, rfl⟩; obtain ⟨x3, hx3⟩ : ∃ x, bU ws (p + 3) = x := ⟨_, rfl⟩; have k0 : wr.cell? ⟨g, p, none⟩ = some (.int .u8 x0.toNat) := by rw [hcell p (by omega), byteAt_bU, hx0]
    have k1 : wr.cell? ⟨g, p + 1, none⟩ = some (.int .u8 x1.toNat) := by rw [hcell (p + 1) (by omega), byteAt_bU, hx1]
    have k2 : wr.cell? ⟨g, p + 2, none⟩ = some (.int .u8 x2.toNat) := by rw [hcell (p + 2) (by omega), byteAt_bU, hx2]
    have k3 : wr.cell? ⟨g, p + 3, none⟩ = some (.int .u8 x3.toNat) := by rw [hcell (p + 3) (by omega), byteAt_bU, hx3]
    have m1 : 4 * (M : Int) - 4 = (p : Int) := by omega
    have m2 : (p : Int) <= (n : Int) := by omega
    have m3 : p <= n := by omega
    have m4 : (n : Int) <= (c3 : Int) := by omega
    have hat := fun (W : World) => run_arrayAt (P := Tryz.prog) W 239 5 4 (some ⟨g, p, none⟩) (n - p) (c3 - p) Tryz.underlying239 (by omega)
    have HTY : Hid (turnW ws con (m + 4) = if M % 4 = 0 then [subU x1 ^^^ con, subU x2, subU x3, subU x0] else [x0, x1, x2, x3]) := by
     unfold Hid turnW; rw [show 4 * (m + 4) - 4 = p by omega, hx0, hx1, hx2, hx3, hM]
    have HNC : Hid ((m + 4) % 4 = M % 4) := by unfold Hid; rw [hM]
    have m6 : (p : Int) < (c3 : Int) := by omega
    have HNM := qq hn; clear hcell hblk hcs htk hx0 hx1 hx2 hx3 hp hn hM
    go_upto_region 7 with fail
    rw [<- (show bytesC [x0, x1, x2, x3] = #[.int .u8 x0.toNat, .int .u8 x1.toNat, .int .u8 x2.toNat, .int .u8 x3.toNat] from rfl)]; obtain ⟨y1, o_, ey1, eo_⟩ : ∃ y1 o_, y1 = wr.alloc (.cells (bytesC [x0, x1, x2, x3]) 239) ∧ o_ = wr.heap.size := ⟨_, _, rfl, rfl⟩; rw [<- ey1, <- eo_]; have hbx : Below wr.heap.size wr y1 := by rw [ey1]; exact below_alloc1 _ _
    have BO := qq (show Blk y1 o_ 239 (bytesC [x0, x1, x2, x3]) by rw [ey1, eo_]; exact blk_new1_0 _ _ _); have HOy := qq (own_below HO.out hbx); have hgo : g < o_ := by rw [eo_]; exact (HO.out.lt g rfl).2
    have hwo : w.heap.size <= o_ := by rw [eo_]; exact hz_wr
    have RY := qq (RW.out.trans (hbx.mono hz_wr)); clear hbx ey1 eo_ k0 k1 k2 k3 hat m1 m2 m3
    go_upto_if 28 with fail
    go_cut [4] (fun s wx => ∃ con' : UInt8, s = .int .u8 con'.toNat ∧ con' = (if M % 4 = 0 then dblU con else con) ∧ Blk wx o_ 239 (bytesC (turnW ws con (m + 4))) ∧ y1.grownBy wx (some o_))
    case first =>
     by_cases h4 : M % 4 = 0
     · have h5 : (M : Int) % 4 = 0 := by omega
       have h7 : decide ((M : Int) % 4 = 0) = true := decide_eq_true h5; have h6 : (M : Int).tmod 4 = 0 := by rw [Int.tmod_eq_emod_of_nonneg (by omega)]; omega
       have c0 : y1.cell? ⟨o_, 0, none⟩ = some (.int .u8 x0.toNat) := BO.out.cell 0; have c1 : y1.cell? ⟨o_, 1, none⟩ = some (.int .u8 x1.toNat) := BO.out.cell 1; have c2 : y1.cell? ⟨o_, 2, none⟩ = some (.int .u8 x2.toNat) := BO.out.cell 2; have c3' : y1.cell? ⟨o_, 3, none⟩ = some (.int .u8 x3.toNat) := BO.out.cell 3; have f0 := BO.out.frozen; obtain ⟨s0, hs0⟩ : ∃ s, subU x0 = s := ⟨_, rfl⟩; obtain ⟨s1, hs1⟩ : ∃ s, subU x1 = s := ⟨_, rfl⟩; obtain ⟨s2, hs2⟩ : ∃ s, subU x2 = s := ⟨_, rfl⟩; obtain ⟨s3, hs3⟩ : ∃ s, subU x3 = s := ⟨_, rfl⟩; have b0 := fun h' => (box_at x0 h').trans hs0
       have b1 := fun h' => (box_at x1 h').trans hs1
       have b2 := fun h' => (box_at x2 h').trans hs2
       have b3 := fun h' => (box_at x3 h').trans hs3
       have l0 : (x0.toNat : Int) < 256 := by have := UInt8.toNat_lt x0; omega
       have l1 : (x1.toNat : Int) < 256 := by have := UInt8.toNat_lt x1; omega
       have l2 : (x2.toNat : Int) < 256 := by have := UInt8.toNat_lt x2; omega
       have l3 : (x3.toNat : Int) < 256 := by have := UInt8.toNat_lt x3; omega
       have e1 := xor_u8 s1 con; obtain ⟨z, hz⟩ : ∃ z, s1 ^^^ con = z := ⟨_, rfl⟩; rw [hz] at e1; have HT2 : Hid (turnW ws con (m + 4) = [z, s2, s3, s0]) := by unfold Hid; rw [HTY.out, if_pos h4, hs0, hs1, hs2, hs3, hz]
       have CD := qq (fun w => double_any con w); clear hs0 hs1 hs2 hs3 hz
       go_wp2_with fail
       refine region_tail 15 (by kernel_rfl) (by kernel_rfl) ?_; simp only [List.take_succ_cons, List.take_zero, List.drop_succ_cons, List.drop_zero]
       repeat ((with_reducible refine wpStill_step (fun K hK => ?_)); go_simp; (with_reducible refine hK _ ?_); clear hK K)
       refine wpStill_nil ?_
       go_wp2_with fail
       generalize hwd : World.drew _ = wd
       have hwd2 : (stores y1 o_ [.int .u8 z.toNat, .int .u8 s2.toNat, .int .u8 s3.toNat, .int .u8 s0.toNat] 0).drew = wd := hwd; have D1 := qq (show Blk wd o_ 239 (bytesC (turnW ws con (m + 4))) by rw [<- hwd2, HT2.out]; exact (BO.out.filled [.int .u8 z.toNat, .int .u8 s2.toNat, .int .u8 s3.toNat, .int .u8 s0.toNat] rfl).same rfl); have D2 := qq (show y1.grownBy wd (some o_) by rw [<- hwd2]; exact grown_drew (storesG _)); clear hwd hwd2; refine (CD.out _).mono ?_; rintro e w9 ⟨rfl, rfl⟩
       go_wp2_with fail
       go_meet
       exact ⟨dblU con, rfl, by rw [if_pos h4], D1.out, D2.out⟩
     · have h5 : ¬ (M : Int) % 4 = 0 := by omega
       have h6 : ¬ (M : Int).tmod 4 = 0 := by rw [Int.tmod_eq_emod_of_nonneg (by omega)]; omega
       go_wp2_with fail
       go_meet
       exact ⟨con, rfl, by rw [if_neg h4], by rw [HTY.out, if_neg h4]; exact BO.out, World.grownBy.refl _ _⟩
    case rest =>
     obtain ⟨con', rfl, hcon', hbt, hgt⟩ := hcut; have HCON := qq hcon'; have BT := qq hbt; have GT := qq hgt; have HTL := qq (turnW_length ws con (m + 4)); obtain ⟨tw, htw⟩ : ∃ tw, turnW ws con (m + 4) = tw := ⟨_, rfl⟩; rw [htw] at BT HTL HN; have RC := qq (RY.out.trans ((Below.refl _ _).grown GT.out RY.out.size (fun k hk => by simp at hk; subst hk; exact hwo))); have HOc := qq (HOy.out.kept GT.out (.inr (by simp [Value.ownBlock]; omega))); clear hcon' hbt hgt htw BO HO HOy RY GT HTY; obtain ⟨t0, ht0⟩ : ∃ x, bU tw 0 = x := ⟨_, rfl⟩; obtain ⟨t1, ht1⟩ : ∃ x, bU tw 1 = x := ⟨_, rfl⟩; obtain ⟨t2, ht2⟩ : ∃ x, bU tw 2 = x := ⟨_, rfl⟩; obtain ⟨t3, ht3⟩ : ∃ x, bU tw 3 = x := ⟨_, rfl⟩; have c0 : wc.cell? ⟨o_, 0, none⟩ = some (.int .u8 t0.toNat) := by rw [BT.out.cell, bytesC_at (by rw [HTL.out]; omega), byteAt_bU, ht0]
     have c1 : wc.cell? ⟨o_, 1, none⟩ = some (.int .u8 t1.toNat) := by rw [BT.out.cell, bytesC_at (by rw [HTL.out]; omega), byteAt_bU, ht1]
     have c2 : wc.cell? ⟨o_, 2, none⟩ = some (.int .u8 t2.toNat) := by rw [BT.out.cell, bytesC_at (by rw [HTL.out]; omega), byteAt_bU, ht2]
     have c3' : wc.cell? ⟨o_, 3, none⟩ = some (.int .u8 t3.toNat) := by rw [BT.out.cell, bytesC_at (by rw [HTL.out]; omega), byteAt_bU, ht3]
     have HIX : Hid (∀ r : Nat, r < 4 -> ∀ W : World, (Instr.index 239 (.agg #[.int .u8 t0.toNat, .int .u8 t1.toNat, .int .u8 t2.toNat, .int .u8 t3.toNat]) (.int .i64 (r : Int))).run Tryz.prog W = .ok (.int .u8 (bU tw r).toNat) W) := by
      intro r hr W; rcases (by omega : r = 0 ∨ r = 1 ∨ r = 2 ∨ r = 3) with rfl | rfl | rfl | rfl
      · rw [ht0]; kernel_rfl
      · rw [ht1]; kernel_rfl
      · rw [ht2]; kernel_rfl
      · rw [ht3]; kernel_rfl
     clear ht0 ht1 ht2 ht3 BT
     go_wp2_with fail
     clear c0 c1 c2 c3'
     go_loopw [3, 47] (fun s i wq => ∃ (r L : Nat) (A : Option Addr) (c : Nat), r <= 4 ∧ Hid (L = n + r) ∧ i = .int .i64 r ∧ s = .slice A L c ∧ Hid (wq.ownsRow w.heap.size 5 1 (.slice A L c) L ((moreW tw (m + 4) ws r).map byteV)) ∧ Below w.heap.size w wq) (fun _ i _ => 4 - (intOf i).toNat)
     case atStart => exact ⟨0, n, some ⟨g, 0, none⟩, c3, by omega, rfl, rfl, rfl, HOc.out, RC.out⟩
     case round =>
      clear HOc RC; obtain ⟨r, L, A5, c5, hr, HLr, rfl, rfl, HO, hbr⟩ := hrel; have RQ := qq hbr; have hz_wq := RQ.out.size; clear hbr
      by_cases hr4 : r < 4
      · have hix := HIX.out r hr4; have r4 : (r : Int) < 4 := by omega
        have hml := moreW_length tw (m + 4) ws r; have HN2 : Hid (moreW tw (m + 4) ws (r + 1) = moreW tw (m + 4) ws r ++ [bU (moreW tw (m + 4) ws r) (4 * (m + 4) - 16 + r) ^^^ bU tw r]) := rfl; obtain ⟨mr, hmr⟩ : ∃ mr, moreW tw (m + 4) ws r = mr := ⟨_, rfl⟩; rw [hmr] at HN2 HO hml; obtain ⟨q, hq⟩ : ∃ q, 4 * (m + 4) - 16 + r = q := ⟨_, rfl⟩; rw [hq] at HN2; obtain ⟨x, hx⟩ : ∃ x, bU mr q = x := ⟨_, rfl⟩; obtain ⟨y, hy⟩ : ∃ y, bU tw r = y := ⟨_, rfl⟩; rw [hx, hy] at HN2; rw [hy] at hix; have e1 := xor_u8 x y; obtain ⟨z, hz⟩ : ∃ z, x ^^^ y = z := ⟨_, rfl⟩; rw [hz] at e1 HN2; have hMm := HM.out; have hLn := HLr.out; have hnm := HNM.out; obtain ⟨g5, cur5, rfl, hg5, hblk, hnc5, hcm5, hcs, htk⟩ := own_row HO.out (by omega); have HBy := qq (show Bytes wr (some ⟨g5, 0, none⟩) L c5 mr from own_rd HO.out); have kx : wr.cell? ⟨g5, q, none⟩ = some (.int .u8 x.toNat) := by
         obtain ⟨b, off, e, h⟩ := HBy.out.at_ (show q < L by omega); injection e with e
         injection e with e1 e2
         subst e1 e2; rw [Nat.zero_add, byteAt_bU, hx] at h; exact h
        have q0 : 4 * (M : Int) - 16 + (r : Int) = (q : Int) := by omega
        have q1 : (0 : Int) <= (q : Int) := by omega
        have q2 : (q : Int) < (L : Int) := by omega
        have hL1 : L <= 1000 := by omega
        clear hblk hcs htk hmr hq hx hy hz hMm hLn hnm hml; have HOw := qq (own_alloc HO.out (.cells #[.int .u8 z.toNat] 5))
        go_wp2_with (at_builtin; refine wpList_append_rd rfl _ _ 27 rfl i0 _ 1 Tryz.underlying27 hi hz0 hz1 hz2 rfl (by decide) rfl HOw.out rfl (rd_one _ _ _) (by simp [Value.oneCell']) ?c1 ?c2 ?c3 ?_)
        case c1 => unfold maxLen; omega
        case c2 => omega
        case c3 => simp; omega
        intro A8 c8 w8 hown8 hg8 hb8; have H8 := qq hown8; have R8 := qq ((RQ.out.trans ((below_alloc1 _ _).mono hz_wq)).trans hb8); clear hown8 hg8 hb8; go_wp2
        go_roundw
        case rel =>
         refine ⟨r + 1, L + 1, A8, c8, by omega, by have := HLr.out; unfold Hid; omega, by go_num, rfl, ?_, R8.out⟩; rw [HN2.out, List.map_append]; exact H8.out
        case measure => simp [intOf]; omega
      · obtain rfl : r = 4 := by omega
        have hLn := HLr.out; have hnm := HNM.out; have hL20 : 16 + 4 * (m + 1) = L := by omega
        have HL20 := qq hL20; have hMm := HM.out; have HM1 := qq (show M + 1 = m + 1 + 4 by omega); clear hLn hnm hL20 hMm; go_wp2
        go_roundw
        case rel =>
         refine ⟨m + 1, M + 1, A5, c5, by omega, HM1.out, by go_num, by rw [HL20.out], by rw [HN.out, HNC.out, HCON.out], ?_, RQ.out⟩; rw [HL20.out, HN.out]; exact HO.out
        case measure => simp [intOf]; omega
  · obtain rfl : m = 40 := by omega
    have hM2 : ¬ (M : Int) < 44 := by omega
    clear hM; have hkl := wordsB_length key 40; rw [HKL.out] at hkl; obtain ⟨ks, hks⟩ : ∃ ks, (wordsB key 40).1 = ks := ⟨_, rfl⟩; have HKS : Hid (keysB key = ks) := hks; rw [hks] at HO hkl; clear hks
    go_upto_region 16 with fail
    rw [zero176]; obtain ⟨y1, o_, ey1, eo_⟩ : ∃ y1 o_, y1 = wr.alloc (.cells (bytesC (List.replicate 176 0)) 243) ∧ o_ = wr.heap.size := ⟨_, _, rfl, rfl⟩; rw [<- ey1, <- eo_]; have hbx : Below wr.heap.size wr y1 := by rw [ey1]; exact below_alloc1 _ _
    have BO := qq (show Blk y1 o_ 243 (bytesC (List.replicate 176 0)) by rw [ey1, eo_]; exact blk_new1_0 _ _ _); obtain ⟨g5, cur5, rfl, hg5, hblk, hnc5, hcm5, hcs, htk⟩ := own_row HO.out (by omega); unfold maxLen at hcm5; have HBy := qq (show Bytes y1 (some ⟨g5, 0, none⟩) 176 c3 ks from (show Bytes wr (some ⟨g5, 0, none⟩) 176 c3 ks from own_rd HO.out).stays hbx); have hgo : g5 < o_ := by rw [eo_]; exact (HO.out.lt g5 rfl).2
    have hwo : w.heap.size <= o_ := by rw [eo_]; exact hz_wr
    have RY := qq (RW.out.trans (hbx.mono hz_wr)); have hc176 : (176 : Int) <= (c3 : Int) := by omega
    have HAt := qq (bytes_at HBy.out (Nat.lt_of_lt_of_le (HO.out.lt g5 rfl).2 hbx.size)); have hne5 : some g5 ≠ some o_ := by intro h; injection h with h; omega
    clear hbx ey1 eo_ hblk hcs htk HO RW hz_wr
    go_wp2_with fail
    go_loopw [67] (fun i wq => ∃ r : Nat, r <= 11 ∧ i = .int .i64 r ∧ Hid (Blk wq o_ 243 (bytesC (ks.take (16 * r) ++ List.replicate (176 - 16 * r) 0))) ∧ y1.grownBy wq (some o_)) (fun i _ => 11 - (intOf i).toNat)
    case atStart => exact ⟨0, by omega, rfl, BO.out, World.grownBy.refl _ _⟩
    case round =>
     clear BO; obtain ⟨r, hr, rfl, BO, hg⟩ := hrel; have GQ := qq hg; clear hg
     by_cases hr11 : r < 11
     · have ir : (r : Int) < 11 := by omega
       obtain ⟨q, hq⟩ : ∃ q, 16 * r = q := ⟨_, rfl⟩; have hq160 : q <= 160 := by omega
       have m1 : IntKind.i64.wrap (16 * (r : Int)) = (q : Int) := by rw [show 16 * (r : Int) = (q : Int) by omega]; exact IntWalk.i64_in _ (by omega)
       have m2 : (q : Int) <= 176 := by omega
       have m3 : (0 : Int) <= (q : Int) := by omega
       have m4 : (q : Int) < (c3 : Int) := by omega
       have m5 : r * 16 = q := by omega
       have m6 : ¬ c3 = q := by omega
       obtain ⟨st, hst⟩ : ∃ st, ks.take (16 * r) ++ List.replicate (176 - 16 * r) 0 = st := ⟨_, rfl⟩; have hstl : st.length = 176 := by rw [<- hst]; simp; omega
       rw [hst] at BO; have hAw := HAt.out.grown GQ.out hne5; have hcell : ∀ j, j < 176 -> wr.cell? ⟨g5, j, none⟩ = some (.int .u8 (byteAt ks j)) := fun j hj => by have h := hAw.2 j (by omega); rwa [Nat.zero_add] at h
       have hat := fun (W : World) => run_arrayAt (P := Tryz.prog) W 225 5 16 (some ⟨g5, q, none⟩) (176 - q) (c3 - q) Tryz.underlying225 (by omega)
       have hatR : At wr g5 q (keyAt ks r) := ⟨hAw.1, fun i hi => by
        rw [keyAt_length hkl (by omega)] at hi; rw [hcell (q + i) (by omega), byteAt_bU, byteAt_bU]; unfold keyAt; rw [take_at hi, drop_at, hq]⟩
       have HKA := qq (keyAt_length hkl (show r <= 10 by omega)); have hld : (Instr.loadAt 225 (.pointer (some ⟨g5, q, none⟩))).run Tryz.prog wr.drew = .ok (.agg (bytesC (keyAt ks r))) wr.drew := run_loadAt_mid wr.drew g5 q 225 ((keyAt ks r).map byteV) _ (At.range (l := keyAt ks r) ⟨hatR.1, hatR.2⟩) Tryz.underlying225 rfl (by rw [List.length_map, HKA.out]; exact infoBlock); have HTH := qq (BO.out.there (o := q) (n := 16) (by rw [bytesC_size]; omega)); have HPUT := qq (Blk.setMid (keyAt ks r) st q _ (BO.out.same (w' := wr.drew) rfl) (by rw [HKA.out]; omega)); have HNX : Hid (st.take q ++ keyAt ks r ++ st.drop (q + (keyAt ks r).length) = ks.take (16 * (r + 1)) ++ List.replicate (176 - 16 * (r + 1)) 0) := by
        unfold Hid; rw [HKA.out, <- hst, hq, show 16 * (r + 1) = q + 16 by omega]; exact keys_next ks r q hkl hr11 hq
       obtain ⟨kr, hkr⟩ : ∃ kr, keyAt ks r = kr := ⟨_, rfl⟩; rw [hkr] at hld HKA HPUT HNX; clear hcell hq hatR hkr
       go_wp2_with fail
       refine region_tail 11 (by kernel_rfl) (by kernel_rfl) ?_; simp only [List.take_succ_cons, List.take_zero, List.drop_succ_cons, List.drop_zero]
       repeat ((with_reducible refine wpStill_step (fun K hK => ?_)); go_simp; (with_reducible refine hK _ ?_); clear hK K)
       refine wpStill_load rfl _ _ rfl (.pointer (some ⟨g5, q, none⟩)) rfl _ hld ?_; simp only [Act.put, List.setIfInBounds_toArray, List.set_cons_zero, List.set_cons_succ]
       repeat ((with_reducible refine wpStill_step (fun K hK => ?_)); go_simp; (with_reducible refine hK _ ?_); clear hK K)
       refine wpStill_nil ?_; refine wpList_store_mid rfl _ _ _ rfl o_ q (bytesC kr) rfl rfl (fun j hj => HTH.out j (by rw [bytesC_size, HKA.out] at hj; exact hj)) (by rw [bytesC_size, HKA.out]; exact infoBlock) (bytes_oneCell kr) ?_; rw [show (bytesC kr).toList = kr.map byteV from rfl]; obtain ⟨wd, hwd⟩ : ∃ wd, wr.drew.setCells o_ q (kr.map byteV) = wd := ⟨_, rfl⟩; have D1 := qq (show Blk wd o_ 243 (bytesC (ks.take (16 * (r + 1)) ++ List.replicate (176 - 16 * (r + 1)) 0)) by rw [<- hwd, <- HNX.out]; exact HPUT.out); have D2 := qq (show y1.grownBy wd (some o_) by rw [<- hwd]; exact (grown_drew GQ.out).trans (setCells_grown _ _ _ _)); rw [hwd]; clear hwd HPUT HNX HTH hld; go_wp2
       go_roundw
       case rel => exact ⟨r + 1, by omega, by go_num, D1.out, D2.out⟩
       case measure => simp [intOf]; omega
     · obtain rfl : r = 11 := by omega
       have HE : Hid (ks.take (16 * 11) ++ List.replicate (176 - 16 * 11) 0 = ks) := by
        unfold Hid; rw [List.take_of_length_le (by omega), show 176 - 16 * 11 = 0 from rfl]; exact List.append_nil ks
       rw [HE.out] at BO; go_wp2; go_ret; exact ⟨o_, rfl, hwo, by rw [HKS.out]; exact BO.out, RY.out.trans ((Below.refl _ _).grown GQ.out RY.out.size (fun k hk => by simp at hk; subst hk; exact hwo))⟩
theorem own_made {w : World} {B e g n c : Nat} {cur : Array Value} {xs : List Value} (hB : B <= g) (h : Blk w g e cur) (hn : n <= c) (hc : c <= maxLen) (hs : cur.size = c) (ht : cur.toList.take n = xs) : w.ownsRow B e 1 (.slice (some ⟨g, 0, none⟩) n c) n xs :=
 ⟨by rw [<- ht, List.length_take]; simp [hs]; omega, .inr ⟨g, c, cur, rfl, hB, h, hn, hc, by simpa using hs, by simpa using ht⟩⟩
def twL (l : List UInt8) : Nat -> List UInt8 × UInt8
 | 0 => (List.replicate 16 0, 0)
 | i + 1 => ((twL l i).1.set (15 - i) (UInt8.ofNat (2 * (bU l (15 - i)).toNat % 256) ||| (twL l i).2), UInt8.ofNat ((bU l (15 - i)).toNat / 128))
def twiceB (l : List UInt8) : List UInt8 := (twL l 16).1.set 15 (bU (twL l 16).1 15 ^^^ UInt8.ofNat ((twL l 16).2.toNat * 135 % 256))
theorem twL_length (l : List UInt8) : ∀ i, (twL l i).1.length = 16
 | 0 => by simp [twL]
 | i + 1 => by rw [twL, List.length_set]; exact twL_length l i
theorem twL_carry (l : List UInt8) : ∀ i, (twL l i).2.toNat <= 1
 | 0 => by simp [twL]
 | i + 1 => by
  have h := UInt8.toNat_lt (bU l (15 - i)); rw [twL]; simp; omega
theorem twiceB_length (l : List UInt8) : (twiceB l).length = 16 := by unfold twiceB; rw [List.length_set]; exact twL_length l 16
theorem or_u8 (x y : UInt8) : bits .or .u8 (x.toNat : Int) (y.toNat : Int) = ((x ||| y).toNat : Int) := by
 rw [u8_or_nat _ _ (UInt8.toNat_lt _) (UInt8.toNat_lt _), UInt8.toNat_or]
theorem u8_of {n : Nat} (h : n < 256) : (UInt8.ofNat n).toNat = n := by
 rw [UInt8.toNat_ofNat']; exact Nat.mod_eq_of_lt h
theorem twice_any (l : List UInt8) (w : World) (hl : l.length = 16) : Calls Tryz.prog 164 #[.agg (bytesC l)] w fun e w' => e = .returned (.agg (bytesC (twiceB l))) ∧ Below w.heap.size w w' := by
 go_enter Tryz.func164, Tryz.ntmps164
 go_upto_region 2 with fail
 rw [<- (show bytesC (List.replicate 16 0) = #[.int .u8 0, .int .u8 0, .int .u8 0, .int .u8 0, .int .u8 0, .int .u8 0, .int .u8 0, .int .u8 0, .int .u8 0, .int .u8 0, .int .u8 0, .int .u8 0, .int .u8 0, .int .u8 0, .int .u8 0, .int .u8 0] from rfl)]; obtain ⟨y1, s_, r_, o_, ey1, es_, er_, eo_⟩ : ∃ y1 s_ r_ o_, y1 = ((w.alloc (.cells (bytesC l) 225)).alloc (.cells (bytesC (List.replicate 16 0)) 225)).alloc (.cells (bytesC (List.replicate 16 0)) 225) ∧ s_ = w.heap.size ∧ r_ = w.heap.size + 1 ∧ o_ = w.heap.size + 1 + 1 := ⟨_, _, _, _, rfl, rfl, rfl, rfl⟩; rw [<- ey1, <- eo_, <- er_, <- es_]; have hbx : Below w.heap.size w y1 := by rw [ey1]; exact below_alloc3 _ _ _ _
 have BS := qq (show Blk y1 s_ 225 (bytesC l) by rw [ey1, es_]; exact blk_new3_0 _ _ _ _ _ _ _); have BR := qq (show Blk y1 r_ 225 (bytesC (List.replicate 16 0)) by rw [ey1, er_]; exact blk_new3_1 _ _ _ _ _ _ _); have BO := qq (show Blk y1 o_ 225 (bytesC (List.replicate 16 0)) by rw [ey1, eo_]; exact blk_new3_2 _ _ _ _ _ _ _); have n1 : ¬ s_ = o_ := by omega
 have n2 : ¬ o_ = s_ := by omega
 have n3 : ¬ r_ = o_ := by omega
 have n4 : ¬ o_ = r_ := by omega
 have g1 : w.heap.size <= o_ := by omega
 have g2 : w.heap.size <= r_ := by omega
 have R1 := qq hbx; clear hbx ey1 es_ er_ eo_
 go_wp2_with fail
 go_loopw [4, 5] (fun sc i wr => ∃ k : Nat, k <= 16 ∧ i = .int .i64 (15 - (k : Int)) ∧ sc = .int .u8 (twL l k).2.toNat ∧ Hid (Blk wr o_ 225 (bytesC (twL l k).1)) ∧ y1.grownBy wr (some o_)) (fun _ i _ => ((intOf i) + 1).toNat)
 case atStart => exact ⟨0, by omega, rfl, rfl, BO.out, World.grownBy.refl _ _⟩
 case round =>
  clear BO; obtain ⟨k, hk, rfl, rfl, BO, hg⟩ := hrel; have GQ := qq hg; clear hg; have hsl := twL_length l k
  by_cases hk16 : k < 16
  · obtain ⟨j, hj⟩ : ∃ j : Nat, 15 - k = j := ⟨_, rfl⟩; have e0 : 15 - (k : Int) = (j : Int) := by omega
    have i0 : (0 : Int) <= (j : Int) := by omega
    have i1 : (j : Int) < 16 := by omega
    obtain ⟨s, hs⟩ : ∃ s, (twL l k).1 = s := ⟨_, rfl⟩; obtain ⟨c, hc⟩ : ∃ c, (twL l k).2 = c := ⟨_, rfl⟩; have HN : Hid (twL l (k + 1) = (s.set j (UInt8.ofNat (2 * (bU l j).toNat % 256) ||| c), UInt8.ofNat ((bU l j).toNat / 128))) := by unfold Hid; rw [twL, hs, hc, hj]
    rw [hs] at BO hsl; rw [hc, e0]; have c1 : wr.cell? ⟨s_, j, none⟩ = some (.int .u8 (byteAt l j)) := by have h := ((At.of_blk BS.out).grown GQ.out (by simpa using n1)).2 j (by omega); rwa [Nat.zero_add] at h
    have c2 : wr.cell? ⟨o_, j, none⟩ = some (.int .u8 (byteAt s j)) := by rw [BO.out.cell, bytesC_at (by omega)]
    have f2 := BO.out.frozen j; rw [byteAt_bU] at c1; obtain ⟨x, hx⟩ : ∃ x, bU l j = x := ⟨_, rfl⟩; rw [hx] at c1 HN; have hx8 : x.toNat < 256 := UInt8.toNat_lt x; obtain ⟨d, hd⟩ : ∃ d, UInt8.ofNat (2 * x.toNat % 256) = d := ⟨_, rfl⟩; obtain ⟨q, hq⟩ : ∃ q, UInt8.ofNat (x.toNat / 128) = q := ⟨_, rfl⟩; have e1 : IntKind.u8.wrap ((x.toNat : Int) * 2) = (d.toNat : Int) := by rw [<- hd, u8_of (Nat.mod_lt _ (by decide))]; simp only [IntKind.wrap_u8]; omega
    have e2 : (x.toNat : Int) / 128 = (q.toNat : Int) := by rw [<- hq, u8_of (by omega)]; rfl
    have e3 := or_u8 d c; rw [hd, hq] at HN; obtain ⟨z, hz⟩ : ∃ z, d ||| c = z := ⟨_, rfl⟩
    rw [hz] at e3 HN; have HO2 := qq (Blk.put BO.out j (byteV z)); rw [bytesC_set] at HO2; have HG2 := qq (grown_put GQ.out j (byteV z)); have HJ := qq (show (j : Int) - 1 = 15 - ((k + 1 : Nat) : Int) by omega); clear hs hc hj hx hx8 hd hq hz e0; go_wp2
    go_roundw
    case rel => exact ⟨k + 1, by omega, by rw [<- HJ.out], by rw [HN.out], by rw [HN.out]; exact HO2.out, HG2.out⟩
    case measure => simp [intOf]
  · obtain rfl : k = 16 := by omega
    obtain ⟨s, hs⟩ : ∃ s, (twL l 16).1 = s := ⟨_, rfl⟩; obtain ⟨c, hc⟩ : ∃ c, (twL l 16).2 = c := ⟨_, rfl⟩; have hc1 := twL_carry l 16; rw [hc] at hc1; have HT : Hid (twiceB l = s.set 15 (bU s 15 ^^^ UInt8.ofNat (c.toNat * 135 % 256))) := by unfold Hid twiceB; rw [hs, hc]
    rw [hs] at BO hsl; rw [hc]; have c2 : wr.cell? ⟨o_, 15, none⟩ = some (.int .u8 (byteAt s 15)) := by rw [BO.out.cell, bytesC_at (by omega)]
    have f2 := BO.out.frozen 15; rw [byteAt_bU] at c2; obtain ⟨x, hx⟩ : ∃ x, bU s 15 = x := ⟨_, rfl⟩; obtain ⟨d, hd⟩ : ∃ d, UInt8.ofNat (c.toNat * 135 % 256) = d := ⟨_, rfl⟩; have e1 : (c.toNat : Int) * 135 = (d.toNat : Int) := by rw [<- hd, u8_of (Nat.mod_lt _ (by decide))]; omega
    have e2 : IntKind.u8.wrap (d.toNat : Int) = (d.toNat : Int) := IntWalk.u8_in _ (by have := UInt8.toNat_lt d; omega); have e3 := xor_u8 x d; rw [hx] at c2 HT; rw [hd] at HT; obtain ⟨z, hz⟩ : ∃ z, x ^^^ d = z := ⟨_, rfl⟩; rw [hz] at e3 HT; have HO2 := qq (Blk.put BO.out 15 (byteV z)); rw [bytesC_set, <- HT.out] at HO2; have HG2 := qq (grown_put GQ.out 15 (byteV z)); have HR2 := qq (BR.out.grown HG2.out (by simpa using n3)); clear hs hc hx hd hz hc1 hsl
    go_upto_region 8 with fail
    rw [show (Value.int IntKind.u8 (z.toNat : Int)) = byteV z from rfl]; obtain ⟨y2, ey2⟩ : ∃ y2, wr.setCell ⟨o_, 15, none⟩ (byteV z) = y2 := ⟨_, rfl⟩; rw [ey2] at HO2 HG2 HR2 ⊢; clear ey2; obtain ⟨t, ht⟩ : ∃ t, twiceB l = t := ⟨_, rfl⟩; have htl := twiceB_length l; rw [ht] at HO2 htl; have HTT := qq ht; clear HT ht
    go_wp2_with (first | (refine wpList_load_blk rfl 225 _ rfl o_ _ t _ rfl HO2.out Tryz.underlying225 rfl (by rw [htl]; exact infoBlock) ?_) | (refine wpList_store_blk rfl 225 _ _ rfl r_ _ (List.replicate 16 0) t rfl rfl HR2.out (by rw [htl]; rfl) (by rw [htl]; exact infoBlock) ?_; intro y3 D3 G3))
    have RE := qq (R1.out.trans (((Below.refl _ _).grown HG2.out R1.out.size (fun k hk => by simp at hk; subst hk; exact g1)).grown G3 (Nat.le_trans R1.out.size HG2.out.size) (fun k hk => by simp at hk; subst hk; exact g2))); refine bodyPost_ret (results_blk rfl _ _ r_ _ t _ rfl D3 Tryz.underlying225 rfl (by rw [htl]; exact infoBlock)) rfl ⟨by rw [HTT.out], RE.out⟩
def filledB (l : List UInt8) : List UInt8 := (l ++ (List.replicate 16 0).drop l.length).set l.length 128
theorem filledB_length {l : List UInt8} (h : l.length < 16) : (filledB l).length = 16 := by
 unfold filledB; simp; omega
theorem zero16L : bytesC (List.replicate 16 0) = #[.int .u8 0, .int .u8 0, .int .u8 0, .int .u8 0, .int .u8 0, .int .u8 0, .int .u8 0, .int .u8 0, .int .u8 0, .int .u8 0, .int .u8 0, .int .u8 0, .int .u8 0, .int .u8 0, .int .u8 0, .int .u8 0] := rfl
theorem filled_any (A : Option Addr) (n c : Nat) (l : List UInt8) (w : World) (hv : Bytes w A n c l) (hn : n < 16) : Calls Tryz.prog 165 #[.slice A n c] w fun e w' => e = .returned (.agg (bytesC (filledB l))) ∧ Below w.heap.size w w' := by
 have HV := qq hv; have HL := qq hv.len; clear hv; have hnI : (n : Int) < 16 := by omega
 go_enter Tryz.func165, Tryz.ntmps165
 go_upto_region 2 with fail
 rw [<- zero16L]; obtain ⟨y1, r_, o_, ey1, er_, eo_⟩ : ∃ y1 r_ o_, y1 = (w.alloc (.cells (bytesC (List.replicate 16 0)) 225)).alloc (.cells (bytesC (List.replicate 16 0)) 225) ∧ r_ = w.heap.size ∧ o_ = w.heap.size + 1 := ⟨_, _, _, rfl, rfl, rfl⟩; rw [<- ey1, <- eo_, <- er_]; have hbx : Below w.heap.size w y1 := by rw [ey1]; exact below_alloc2 _ _ _
 have BR := qq (show Blk y1 r_ 225 (bytesC (List.replicate 16 0)) by rw [ey1, er_]; exact blk_new2_0 _ _ _ _ _); have BO := qq (show Blk y1 o_ 225 (bytesC (List.replicate 16 0)) by rw [ey1, eo_]; exact blk_new2_1 _ _ _ _ _); have n3 : ¬ r_ = o_ := by omega
 have g1 : w.heap.size <= o_ := by omega
 have g2 : w.heap.size <= r_ := by omega
 have HV1 := qs HV hbx; have R1 := qq hbx; have hfl : (filledB l).length = 16 := filledB_length (by rw [HL.out]; exact hn); have HT : Hid (filledB l = (l ++ (List.replicate 16 0).drop n).set n 128) := by unfold Hid filledB; rw [HL.out]
 have hml : (l ++ (List.replicate 16 0).drop n).length = 16 := by simp [HL.out]; omega
 obtain ⟨m, hm⟩ : ∃ m, l ++ (List.replicate 16 0).drop n = m := ⟨_, rfl⟩; obtain ⟨t, ht⟩ : ∃ t, filledB l = t := ⟨_, rfl⟩; have HM := qq hm; have HTT := qq ht; rw [ht] at hfl HT; rw [hm] at HT hml; clear hbx ey1 er_ eo_ hm ht
 go_upto_region 3 with (refine wpList_copy_blk rfl _ _ rfl o_ 16 _ (List.replicate 16 0) l A n c rfl rfl BO.out rfl HV1.out (by omega) ?_; intro y2 D2 G2; rw [HM.out] at D2; have c2 : y2.cell? ⟨o_, n, none⟩ = some (.int .u8 (byteAt m n)) := (by rw [D2.cell, bytesC_at (by omega)]); have f2 := D2.frozen n)
 rw [show (Value.int IntKind.u8 128) = byteV 128 from rfl]; obtain ⟨y3, ey3⟩ : ∃ y3, y2.setCell ⟨o_, n, none⟩ (byteV 128) = y3 := ⟨_, rfl⟩; have B3 := qq (Blk.put D2 n (byteV 128)); rw [bytesC_set, <- HT.out] at B3; have G3 := qq (grown_put G2 n (byteV 128)); rw [ey3] at B3 G3 ⊢; have HR3 := qq (BR.out.grown G3.out (by simpa using n3)); clear ey3 c2 f2 D2 G2
 go_wp2_with (first | (refine wpList_load_blk rfl 225 _ rfl o_ _ t _ rfl B3.out Tryz.underlying225 rfl (by rw [hfl]; exact infoBlock) ?_) | (refine wpList_store_blk rfl 225 _ _ rfl r_ _ (List.replicate 16 0) t rfl rfl HR3.out (by rw [hfl]; rfl) (by rw [hfl]; exact infoBlock) ?_; intro y4 D4 G4))
 have RE := qq (R1.out.trans (((Below.refl _ _).grown G3.out R1.out.size (fun k hk => by simp at hk; subst hk; exact g1)).grown G4 (Nat.le_trans R1.out.size G3.out.size) (fun k hk => by simp at hk; subst hk; exact g2))); refine bodyPost_ret (results_blk rfl _ _ r_ _ t _ rfl D4 Tryz.underlying225 rfl (by rw [hfl]; exact infoBlock)) rfl ⟨by rw [HTT.out], RE.out⟩
def keysL (g : Value) (k1 k2 : List UInt8) : List Value := [g] ++ (k1.map byteV ++ (k2.map byteV ++ []))
def k1B (key : List UInt8) : List UInt8 := twiceB (aesB (keysB key) (List.replicate 16 0))
def k2B (key : List UInt8) : List UInt8 := twiceB (k1B key)
theorem k1B_length (key : List UInt8) : (k1B key).length = 16 := twiceB_length _
theorem k2B_length (key : List UInt8) : (k2B key).length = 16 := twiceB_length _
theorem infoKeys : (Tryz.prog.info? 229).map (·.size) = some 33 := by kernel_rfl
theorem keysL_one (g : Option Addr) (k1 k2 : List UInt8) : ∀ v ∈ keysL (.pointer g) k1 k2, v.oneCell' = true := by
 intro v hv; unfold keysL at hv; rw [List.append_nil] at hv; rcases List.mem_append.1 hv with h | h
 · rw [List.mem_singleton.1 h]; rfl
 · rcases List.mem_append.1 h with h | h <;> exact oneCell_bytes _ v h
theorem keysL_length {g : Value} {k1 k2 : List UInt8} (h1 : k1.length = 16) (h2 : k2.length = 16) : (keysL g k1 k2).length = 33 := by
 unfold keysL; simp [h1, h2]
def z16 : List UInt8 := List.replicate 16 0
theorem ready_any (A : Option Addr) (c : Nat) (key : List UInt8) (w : World) (hv : Bytes w A 16 c key) : Calls Tryz.prog 154 #[.slice A 16 c] w fun e w' => ∃ g, e = .returned (.tuple #[.agg (keysL (.pointer (some ⟨g, 0, none⟩)) (k1B key) (k2B key)).toArray, .int .i64 0]) ∧ w.heap.size <= g ∧ Blk w' g 243 (bytesC (keysB key)) ∧ Below w.heap.size w w' := by
 have HV := qq hv; have HL := qq hv.len; clear hv
 go_enter Tryz.func154, Tryz.ntmps154
 go_upto_region 1 with fail
 obtain ⟨y1, r_, ey1, er_⟩ : ∃ y1 r_, y1 = w.alloc (.cells (keysL (.pointer none) z16 z16).toArray 229) ∧ r_ = w.heap.size := ⟨_, _, rfl, rfl⟩; rw [show (#[Value.pointer none, .int .u8 0, .int .u8 0, .int .u8 0, .int .u8 0, .int .u8 0, .int .u8 0, .int .u8 0, .int .u8 0, .int .u8 0, .int .u8 0, .int .u8 0, .int .u8 0, .int .u8 0, .int .u8 0, .int .u8 0, .int .u8 0, .int .u8 0, .int .u8 0, .int .u8 0, .int .u8 0, .int .u8 0, .int .u8 0, .int .u8 0, .int .u8 0, .int .u8 0, .int .u8 0, .int .u8 0, .int .u8 0, .int .u8 0, .int .u8 0, .int .u8 0, .int .u8 0] : Array Value) = (keysL (.pointer none) z16 z16).toArray from rfl, <- ey1, <- er_]; have hbx : Below w.heap.size w y1 := by rw [ey1]; exact below_alloc1 _ _
 have BR := qq (show Blk y1 r_ 229 (keysL (.pointer none) z16 z16).toArray by rw [ey1, er_]; exact blk_new1_0 _ _ _); have g1 : w.heap.size <= r_ := by omega
 have HV := qs HV hbx; have R1 := qq hbx; clear hbx ey1 er_
 go_wp2_with fail
 refine (aesNew_any A c key _ HV.out).mono ?_; rintro e y2 ⟨g, rfl, hg, hblk, hb⟩; have BG := qq hblk; have R2 := qt R1 hb; have HR := qs BR hb; have hrg : r_ < g := Nat.lt_of_lt_of_le BR.out.lt hg; have BG0 := BG.out.lt; have wg : w.heap.size <= g := by omega
 clear hb hblk hg BR R1
 go_upto_region 4 with (refine wpList_store_part rfl 229 _ _ rfl y2.heap.size 0 229 [] (keysL (.pointer none) z16 z16) [] (keysL (.pointer (some ⟨g, 0, none⟩)) z16 z16) rfl rfl (Blk.new _ _ _) rfl rfl infoKeys (keysL_one _ _ _) ?_; intro y3 D3 G3; rw [List.append_nil, List.nil_append] at D3)
 have hb3 := below_new_store G3; obtain ⟨k_, ek⟩ : ∃ k_, k_ = y2.heap.size := ⟨_, rfl⟩; rw [<- ek] at D3 ⊢; have BK := qq D3; have R3 := qt R2 hb3; have HR := qs HR hb3; have BG := qs BG hb3; have hgk : g < k_ := by rw [ek]; exact BG0
 clear hb3 ek D3 G3 BG0 R2
 go_upto_region 5 with fail
 rw [<- zero16L]; obtain ⟨y4, z_, ey4, ez_⟩ : ∃ y4 z_, y4 = y3.alloc (.cells (bytesC (List.replicate 16 0)) 225) ∧ z_ = y3.heap.size := ⟨_, _, rfl, rfl⟩; rw [<- ey4, <- ez_]; have hbx : Below y3.heap.size y3 y4 := by rw [ey4]; exact below_alloc1 _ _
 have BZ := qq (show Blk y4 z_ 225 (bytesC (List.replicate 16 0)) by rw [ey4, ez_]; exact blk_new1_0 _ _ _); have hkz : k_ < z_ := by rw [ez_]; exact BK.out.lt
 have R4 := qt R3 hbx; have HR := qs HR hbx; have BG := qs BG hbx; have BK := qs BK hbx; have wz : w.heap.size <= z_ := by rw [ez_]; exact R3.out.size
 clear hbx ey4 ez_ R3; have wk : w.heap.size <= k_ := by omega
 have kk : y4.cell? ⟨k_, 0, none⟩ = some (.pointer (some ⟨g, 0, none⟩)) := BK.out.cell 0
 go_wp2_with fail
 refine (encrypt_any g z_ _ (keysB key) (List.replicate 16 0) _ BG.out (by have := wordsB_length key 40; unfold keysB; rw [this, HL.out]) BZ.out rfl (by omega)).mono ?_; rintro e y5 ⟨rfl, hbz, hg5⟩; have BZ := qq hbz; have HR := qq (HR.out.grown hg5 (by simp; omega)); have BG := qq (BG.out.grown hg5 (by simp; omega)); have BK := qq (BK.out.grown hg5 (by simp; omega)); have R5 := qq (R4.out.trans ((Below.refl _ _).grown hg5 R4.out.size (fun k hk => by simp at hk; subst hk; exact wz))); clear hbz hg5 R4 kk; have HE1 : Hid (k1B key = twiceB (aesB (keysB key) (List.replicate 16 0))) := rfl; have hel := aesB_length (keysB key) (List.replicate 16 0); obtain ⟨z1, hz1⟩ : ∃ z1, aesB (keysB key) (List.replicate 16 0) = z1 := ⟨_, rfl⟩; rw [hz1] at BZ HE1 hel; have hz1l : z1.length = 16 := hel; clear hz1 hel
 go_wp2_with (refine wpList_load_blk rfl 225 _ rfl z_ _ z1 _ rfl BZ.out Tryz.underlying225 rfl (by rw [hz1l]; exact infoBlock) ?_)
 refine (twice_any z1 _ hz1l).mono ?_; rintro e y6 ⟨rfl, hb⟩; have HR := qs HR hb; have BG := qs BG hb; have BK := qs BK hb; have R6 := qt R5 hb; clear hb R5 BZ; have h1l := k1B_length key; have h2l := k2B_length key; have HE2 : Hid (k2B key = twiceB (k1B key)) := rfl; rw [<- HE1.out]; obtain ⟨k1, hk1⟩ : ∃ k1, k1B key = k1 := ⟨_, rfl⟩; obtain ⟨k2, hk2⟩ : ∃ k2, k2B key = k2 := ⟨_, rfl⟩; have HK1 := qq hk1; have HK2 := qq hk2; rw [hk1] at h1l HE2; rw [hk2] at h2l HE2; rw [hk1]; clear hk1 hk2 HE1
 go_upto_region 7 with (refine wpList_store_part rfl 225 _ _ rfl k_ 1 229 [.pointer (some ⟨g, 0, none⟩)] (z16.map byteV) (z16.map byteV ++ []) (k1.map byteV) rfl rfl BK.out rfl (by rw [List.length_map, h1l]; rfl) (by rw [List.length_map, h1l]; exact infoBlock) (oneCell_bytes k1) ?_; intro y7 D7 G7)
 have BK := qq D7; have HR := qq (HR.out.grown G7 (by simp; omega)); have BG := qq (BG.out.grown G7 (by simp; omega)); have R7 := qq (R6.out.trans ((Below.refl _ _).grown G7 R6.out.size (fun k hk => by simp at hk; subst hk; exact wk))); clear D7 G7 R6
 go_wp2_with (refine wpList_load_part rfl 225 _ rfl k_ 1 229 [.pointer (some ⟨g, 0, none⟩)] (k1.map byteV) (z16.map byteV ++ []) _ rfl BK.out rfl Tryz.underlying225 rfl (by rw [List.length_map, h1l]; exact infoBlock) ?_)
 refine (twice_any k1 _ h1l).mono ?_; rintro e y8 ⟨rfl, hb⟩; have HR := qs HR hb; have BG := qs BG hb; have BK := qs BK hb; have R8 := qt R7 hb; clear hb R7; rw [<- HE2.out]
 go_upto_region 8 with (refine wpList_store_part rfl 225 _ _ rfl k_ 17 229 ([.pointer (some ⟨g, 0, none⟩)] ++ k1.map byteV) (z16.map byteV) [] (k2.map byteV) rfl rfl BK.out (by rw [List.length_append, List.length_map, h1l]; rfl) (by rw [List.length_map, h2l]; rfl) (by rw [List.length_map, h2l]; exact infoBlock) (oneCell_bytes k2) ?_; intro y9 D9 G9)
 have BK := qq (show Blk y9 k_ 229 ([] ++ (keysL (.pointer (some ⟨g, 0, none⟩)) k1 k2 ++ [])).toArray by rw [List.nil_append, List.append_nil]; unfold keysL; rw [<- List.append_assoc]; exact D9); have HR := qq (show Blk y9 r_ 229 ([] ++ (keysL (.pointer none) z16 z16 ++ [])).toArray by rw [List.nil_append, List.append_nil]; exact HR.out.grown G9 (by simp; omega)); have BG := qq (BG.out.grown G9 (by simp; omega)); have R9 := qq (R8.out.trans ((Below.refl _ _).grown G9 R8.out.size (fun k hk => by simp at hk; subst hk; exact wk))); clear D9 G9 R8; have hkl : (keysL (.pointer (some ⟨g, 0, none⟩)) k1 k2).length = 33 := keysL_length h1l h2l; obtain ⟨kv, hkv⟩ : ∃ kv, keysL (.pointer (some ⟨g, 0, none⟩)) k1 k2 = kv := ⟨_, rfl⟩; have HKV := qq hkv; have hk1 : ∀ v ∈ kv, v.oneCell' = true := by rw [<- hkv]; exact keysL_one _ _ _
 rw [hkv] at BK hkl; clear hkv
 go_wp2_with (first | (refine wpList_load_part rfl 229 _ rfl k_ 0 229 [] kv [] _ rfl BK.out rfl Tryz.underlying229 rfl (by rw [hkl]; exact infoKeys) ?_) | (refine wpList_store_part rfl 229 _ _ rfl r_ 0 229 [] (keysL (.pointer none) z16 z16) [] kv rfl rfl HR.out rfl (by rw [hkl]; rfl) (by rw [hkl]; exact infoKeys) hk1 ?_; intro y10 D10 G10; rw [List.append_nil, List.nil_append] at D10))
 refine bodyPost_ret (results_whole2 rfl _ _ r_ _ kv _ (.int .i64 0) rfl rfl D10 Tryz.underlying229 rfl (by rw [hkl]; exact infoKeys)) rfl ⟨g, by rw [<- HKV.out, HK1.out, HK2.out], wg, BG.out.grown G10 (by simp; omega), R9.out.trans ((Below.refl _ _).grown G10 R9.out.size (fun k hk => by simp at hk; subst hk; exact g1))⟩
def macV (ks l : List UInt8) : Nat -> List UInt8
 | 0 => z16
 | i + 1 => aesB ks (xorB (macV ks l i) ((l.drop (16 * i)).take 16))
theorem xorB_length (l m : List UInt8) : (xorB l m).length = l.length := setsL_length _ _ _ _
theorem macV_length (ks l : List UInt8) : ∀ i, (macV ks l i).length = 16
 | 0 => rfl
 | i + 1 => by rw [macV, aesB_length, xorB_length]; exact macV_length ks l i
def macRest (l : List UInt8) : List UInt8 := l.drop (16 * ((l.length - 1) / 16))
def macB (ks k1 k2 l : List UInt8) : List UInt8 :=
 aesB ks (xorB (xorB (macV ks l ((l.length - 1) / 16)) (if (macRest l).length = 16 then macRest l else filledB (macRest l))) (if (macRest l).length = 16 then k1 else k2))
theorem macB_length (ks k1 k2 l : List UInt8) : (macB ks k1 k2 l).length = 16 := by
 unfold macB; rw [aesB_length, xorB_length, xorB_length, macV_length]
theorem Bytes.range {w : World} {b off n c : Nat} {l : List UInt8} (h : Bytes w (some ⟨b, off, none⟩) n c l) (k : Nat) : w.rangeAt b off ((l.take k).map byteV) := by
 intro j v hv; rw [List.getElem?_map, List.getElem?_take] at hv
 split at hv
 · have hj : (l.map byteV)[j]? = some v := by rw [List.getElem?_map]; exact hv
   obtain ⟨b', off', e, hc⟩ := h.2.2.2 j v hj; injection e with e
   injection e with e1 e2
   rw [<- e1, <- e2] at hc; exact hc
 · cases hv
theorem cmac1_any (g : Nat) (ks k1 k2 : List UInt8) (A : Option Addr) (n c : Nat) (l : List UInt8) (w : World) (hg : Blk w g 243 (bytesC ks)) (hks : ks.length = 176) (h1 : k1.length = 16) (h2 : k2.length = 16) (hv : Bytes w A n c l) : Calls Tryz.prog 156 #[.agg (keysL (.pointer (some ⟨g, 0, none⟩)) k1 k2).toArray, .slice A n c] w fun e w' => e = .returned (.agg (bytesC (macB ks k1 k2 l))) ∧ Below w.heap.size w w' := by
 have HV := qq hv; have HL := qq hv.len; have HG := qq hg; have glt := hg.lt; clear hv hg; have hkl : (keysL (.pointer (some ⟨g, 0, none⟩)) k1 k2).length = 33 := keysL_length h1 h2; obtain ⟨kv, hkv⟩ : ∃ kv, keysL (.pointer (some ⟨g, 0, none⟩)) k1 k2 = kv := ⟨_, rfl⟩; have HKV := qq hkv; rw [hkv] at hkl ⊢; clear hkv
 go_enter Tryz.func156, Tryz.ntmps156
 go_upto_region 2 with fail
 rw [<- zero16L]; obtain ⟨y1, s_, r_, v_, ey1, es_, er_, ev_⟩ : ∃ y1 s_ r_ v_, y1 = ((w.alloc (.cells kv.toArray 229)).alloc (.cells (bytesC (List.replicate 16 0)) 225)).alloc (.cells (bytesC (List.replicate 16 0)) 225) ∧ s_ = w.heap.size ∧ r_ = w.heap.size + 1 ∧ v_ = w.heap.size + 1 + 1 := ⟨_, _, _, _, rfl, rfl, rfl, rfl⟩; rw [<- ey1, <- ev_, <- er_, <- es_]; have hbx : Below w.heap.size w y1 := by rw [ey1]; exact below_alloc3 _ _ _ _
 have BS := qq (show Blk y1 s_ 229 kv.toArray by rw [ey1, es_]; exact blk_new3_0 _ _ _ _ _ _ _); have BR := qq (show Blk y1 r_ 225 (bytesC z16) by rw [ey1, er_]; exact blk_new3_1 _ _ _ _ _ _ _); have BV := qq (show Blk y1 v_ 225 (bytesC z16) by rw [ey1, ev_]; exact blk_new3_2 _ _ _ _ _ _ _); have hgs : g < s_ := by omega
 have hsr : s_ < r_ := by omega
 have hrv : r_ < v_ := by omega
 have ws : w.heap.size <= s_ := by omega
 have wr0 : w.heap.size <= r_ := by omega
 have wv : w.heap.size <= v_ := by omega
 have R1 := qq hbx; clear hbx ey1 es_ er_ ev_
 go_wp2_with fail
 go_loopw [1] (fun sb wr => ∃ (i m : Nat) (A : Option Addr) (c : Nat), sb = .slice A m c ∧ Hid (m + 16 * i = n ∧ (i = 0 ∨ 1 <= m)) ∧ Hid (Bytes w A m c (l.drop (16 * i))) ∧ Hid (Blk wr v_ 225 (bytesC (macV ks l i))) ∧ y1.grownBy wr (some v_)) (fun sb _ => match sb with | .slice _ m _ => m | _ => 0)
 case atStart => exact ⟨0, n, A, c, rfl, ⟨by omega, .inl rfl⟩, (show Bytes w A n c (l.drop 0) by rw [List.drop_zero]; exact HV.out), BV.out, World.grownBy.refl _ _⟩
 case round =>
  clear BV; obtain ⟨i, m, A3, c3, rfl, HM, HB, BV, hgr⟩ := hrel; have GQ := qq hgr; have RW := qq (R1.out.trans ((Below.refl _ _).grown hgr R1.out.size (fun k hk => by simp at hk; subst hk; exact wv))); clear hgr
  by_cases hm16 : m > 16
  · have hmI : (m : Int) > 16 := by omega
    have hmc := HB.out.le; have hcm := HB.out.cap; obtain ⟨b, off, rfl, _⟩ := HB.out.at_ (show 0 < m by omega); have hmv := macV_length ks l i; have HN : Hid (macV ks l (i + 1) = aesB ks (xorB (macV ks l i) ((l.drop (16 * i)).take 16))) := rfl; have htl : ((l.drop (16 * i)).take 16).length = 16 := by rw [List.length_take, HB.out.len]; omega
    obtain ⟨v, hv⟩ : ∃ v, macV ks l i = v := ⟨_, rfl⟩; rw [hv] at BV HN hmv; have hat := fun (W : World) => run_arrayAt (P := Tryz.prog) W 225 5 16 (some ⟨b, off, none⟩) m c3 Tryz.underlying225 (by omega)
    have HR := qq ((HB.out.stays RW.out).range 16); have HN2 := qq (show Bytes w (some ⟨b, off + 16, none⟩) (m - 16) (c3 - 16) (l.drop (16 * (i + 1))) from by
     have h := HB.out.cut 16 m (by omega) (Nat.le_refl _); have hln := HB.out.len; rw [List.length_drop] at hln; rw [if_neg (by omega), Option.map_some, add_off, List.drop_drop, List.take_of_length_le (by rw [List.length_drop]; omega), show 16 * i + 16 = 16 * (i + 1) by omega] at h; exact h)
    obtain ⟨t, ht⟩ : ∃ t, (l.drop (16 * i)).take 16 = t := ⟨_, rfl⟩; rw [ht] at HN HR htl; clear hv ht
    go_upto_region 5 with (first | (refine wpList_load_mid rfl 225 _ rfl b off rfl (t.map byteV) _ HR.out Tryz.underlying225 rfl (by rw [List.length_map, htl]; exact infoBlock) ?_) | (refine wpList_store_part rfl 225 _ _ rfl wr.heap.size 0 225 [] (z16.map byteV) [] (t.map byteV) rfl rfl (Blk.new _ _ _) rfl (by rw [List.length_map, htl]; rfl) (by rw [List.length_map, htl]; exact infoBlock) (oneCell_bytes t) ?_; intro y3 D3 G3; rw [List.append_nil, List.nil_append] at D3))
    have hb3 := below_new_store G3; obtain ⟨x_, ex⟩ : ∃ x_, x_ = wr.heap.size := ⟨_, rfl⟩; rw [<- ex] at D3 ⊢; have hvx : v_ < x_ := by rw [ex]; exact BV.out.lt
    have AX := qq (At.of_blk (l := t) D3); have BV := qs BV hb3; have GQ := qq (GQ.out.trans (grown_of_below hb3 (some v_))); have BS3 := BS.out.grown GQ.out (by simp; omega); have HGx := qq (HG.out.stays (RW.out.trans (hb3.mono RW.out.size))); have hxz : x_ < y3.heap.size := AX.out.1; clear hb3 D3 G3 HR hat ex
    go_wp2_with fail
    refine (blockXor_any v_ 0 x_ _ v t _ BV.out hmv AX.out htl (by omega)).mono ?_; rintro e y4 ⟨rfl, hbv, hg4⟩; have BV := qq hbv; have GQ := qq (GQ.out.trans hg4); have BS4 := BS3.grown hg4 (by simp; omega); have HGx := qq (HGx.out.grown hg4 (by simp; omega)); have hwb : w.heap.size <= y4.heap.size := by have := GQ.out.size; have := R1.out.size; omega
    have cS : y4.cell? ⟨s_, 0, none⟩ = some (.pointer (some ⟨g, 0, none⟩)) := by rw [BS4.cell, <- HKV.out]; rfl
    clear hbv hg4 BS3
    go_wp2_with fail
    refine (encrypt_any g v_ _ ks (xorB v t) _ HGx.out hks BV.out (by rw [xorB_length, hmv]) (by omega)).mono ?_; rintro e y5 ⟨rfl, hbv, hg5⟩; have BV := qq hbv; have GQ := qq (GQ.out.trans hg5); rw [<- HN.out] at BV; clear hbv hg5 cS BS4; have m1 : (16 : Int) <= (m : Int) := by omega
    have m2 : (16 : Int) <= (c3 : Int) := by omega
    have m3 : ¬ c3 = 16 := by omega
    go_wp2
    go_roundw
    case rel =>
     refine ⟨i + 1, m - 16, some ⟨b, off + 16, none⟩, c3 - 16, rfl, ?_, HN2.out, BV.out, GQ.out⟩; have := HM.out; exact ⟨by omega, .inr (by omega)⟩
    case measure => simp; omega
  · have hi0 : (l.length - 1) / 16 = i := by have := HM.out; have := HL.out; omega
    have HRest : Hid (macRest l = l.drop (16 * i)) := by unfold Hid macRest; rw [hi0]
    have hmv := macV_length ks l i; obtain ⟨v, hv⟩ : ∃ v, macV ks l i = v := ⟨_, rfl⟩; rw [hv] at BV hmv; obtain ⟨rs, hrs⟩ : ∃ rs, l.drop (16 * i) = rs := ⟨_, rfl⟩; rw [hrs] at HB HRest; have HMB : Hid (macB ks k1 k2 l = aesB ks (xorB (xorB v (if rs.length = 16 then rs else filledB rs)) (if rs.length = 16 then k1 else k2))) := by unfold Hid macB; rw [hi0, hv, HRest.out]
    have hrl := HB.out.len; clear hi0 HRest hv hrs; obtain ⟨mv, hmv0⟩ : ∃ mv, macB ks k1 k2 l = mv := ⟨_, rfl⟩; rw [hmv0] at HMB; have HMV := qq hmv0; clear hmv0; have BS := qq (show Blk wr s_ 229 ([Value.pointer (some ⟨g, 0, none⟩)] ++ (k1.map byteV ++ (k2.map byteV ++ []))).toArray from by have h := BS.out.grown GQ.out (by simp; omega); rw [<- HKV.out] at h; exact h); have slt := BS.out.lt; have vlt := BV.out.lt; have hmI : ¬ (m : Int) > 16 := by omega
    go_upto_region 7 with fail
    refine take_start (S := fun w' => Below wr.heap.size wr w') (by kernel_rfl) ?hPQ1 (Below.refl _ _).drew (fun hPQ hHeld => ?rest1)
    case hPQ1 => (repeat (with_reducible first | refine PQ.then ?_ | refine PQ.block ?_)); exact fun _ _ d _ _ h => by cases d <;> exact h
    case rest1 =>
    refine take_val (i := 0) (d := (some 21)) (v := .agg (bytesC z16)) rfl rfl (by kernel_rfl) (by kernel_rfl) (by kernel_rfl) hPQ (by rfl) (fun wq hSw => ?_) hHeld ?_
    · go_simp; rfl
    try simp only [qp, qn]
    refine take_val (i := 1) (d := (some 22)) (v := .pointer (some ⟨s_, 1, none⟩)) rfl rfl (by kernel_rfl) (by kernel_rfl) (by kernel_rfl) hPQ (by rfl) (fun wq hSw => ?_) hHeld ?_
    · go_simp; try with_reducible rfl
    try simp only [qp, qn]
    refine take_val (i := 2) (d := (some 23)) (v := .agg (bytesC k1)) rfl rfl (by kernel_rfl) (by kernel_rfl) (by kernel_rfl) hPQ (by rfl) (fun wq hSw => exec_load_part 225 _ rfl s_ 1 229 [Value.pointer (some ⟨g, 0, none⟩)] (k1.map byteV) (k2.map byteV ++ []) _ rfl (BS.out.stays hSw) rfl Tryz.underlying225 rfl (by rw [List.length_map, h1]; exact infoBlock)) hHeld ?_; try simp only [qp, qn]
    refine take_alloc2 (i := 3) (j := 4) (di := some 7) (dj := some 8) (Ti := 225) (Tj := 225) (zi := bytesC z16) (zj := bytesC z16) (C := ?C_a) rfl rfl rfl rfl (by kernel_rfl) (by kernel_rfl) (by kernel_rfl) rfl rfl (fun a w => by go_simp; rfl) (fun a w => by go_simp; rfl) hHeld (fun w1 w2 h1 h2 => below_via h1 h2 h1.size) ?ij_a ?ji_a ?h_a
    case ij_a =>
     intro ga gb w2 hHeld hC; try simp only [qp, qn]
     refine relist (L' := #[true, true, true, true, true, false, false]) (by kernel_rfl) ?_; exact hC
    case ji_a =>
     intro ga gb w2 hHeld hC; try simp only [qp, qn]
     refine relist (L' := #[true, true, true, true, true, false, false]) (by kernel_rfl) ?_; exact hC
    case h_a =>
    intro x_ u_ y3 hxu wx wu BX0 BU0 hb3 hHeld; refine take_store_blk (j := 5) rfl rfl (by kernel_rfl) rfl 225 _ _ rfl x_ 225 z16 z16 rfl rfl BX0 rfl (by kernel_rfl) (fun w2 hg => hHeld.grown hg hHeld.size (fun k hk => by injection hk with hk; rw [<- hk]; exact wx)) (fun y4 BX4 hg4 => ?_); have hHeld4 : Below wr.heap.size wr y4 := hHeld.grown hg4 hHeld.size (fun k hk => by injection hk with hk; rw [<- hk]; exact wx); refine take_store_blk (j := 6) rfl rfl (by kernel_rfl) rfl 225 _ _ rfl u_ 225 z16 k1 rfl rfl (BU0.grown hg4 (by intro e; injection e with e; exact hxu e.symm)) (by rw [h1]; rfl) (by rw [h1]; exact infoBlock) (fun w2 hg => hHeld4.grown hg hHeld4.size (fun k hk => by injection hk with hk; rw [<- hk]; exact wu)) (fun y5 BU5 hg5 => ?_); have hHeld5 : Below wr.heap.size wr y5 := hHeld4.grown hg5 hHeld4.size (fun k hk => by injection hk with hk; rw [<- hk]; exact wu); refine wpAnyH_done (by kernel_rfl) ?_ _; have BX := qq (BX4.grown hg5 (by intro e; injection e with e; exact hxu e)); have BU := qq BU5; have BS := qs BS hHeld5; have BV := qs BV hHeld5; have RQ := qt RW hHeld5; have HGx := qq (HG.out.stays RQ.out); have BRx := qq ((BR.out.grown GQ.out (by intro e; injection e with e; omega)).stays hHeld5); have xlt := BX.out.lt; have ult := BU.out.lt; have vx : v_ < x_ := Nat.lt_of_lt_of_le vlt wx; have vu : v_ < u_ := Nat.lt_of_lt_of_le vlt wu; clear BX0 BU0 hb3 hHeld BX4 hg4 hHeld4 BU5 hg5 hHeld5 hPQ slt vlt wx wu
    by_cases h16 : m = 16
    case' pos =>
     subst h16; obtain ⟨b, off, rfl, _⟩ := HB.out.at_ (show 0 < 16 by omega); have hat := fun (W : World) => run_arrayAt (P := Tryz.prog) W 225 5 16 (some ⟨b, off, none⟩) 16 c3 Tryz.underlying225 (by omega)
     have HRR := qq ((HB.out.stays RQ.out).range 16); have e6 : rs.take 16 = rs := List.take_of_length_le (by omega); rw [e6] at HRR; rw [if_pos hrl, if_pos hrl] at HMB
     go_upto_region 11 with (first | (refine wpList_load_mid rfl 225 _ rfl b off rfl (rs.map byteV) _ HRR.out Tryz.underlying225 rfl (by rw [List.length_map, hrl]; exact infoBlock) ?_) | (refine wpList_store_blk rfl 225 _ _ rfl x_ _ z16 rs rfl rfl BX.out (by rw [hrl]; rfl) (by rw [hrl]; exact infoBlock) ?_; intro y6 D6 G6))
     obtain ⟨la, su, ela, esu⟩ : ∃ la su, la = rs ∧ su = k1 := ⟨_, _, rfl, rfl⟩; have GX := qq G6; rw [<- ela] at D6; have BX := qq D6; have BU := qq (BU.out.grown G6 (by intro e; injection e with e; exact hxu e.symm)); rw [<- esu] at BU; have BV := qq (BV.out.grown G6 (by intro e; injection e with e; omega)); have BS := qq (BS.out.grown G6 (by intro e; injection e with e; omega)); have HGx := qq (HGx.out.grown G6 (by intro e; injection e with e; omega)); have BRx := qq (BRx.out.grown G6 (by intro e; injection e with e; omega)); have RQ := qq (RQ.out.grown G6 RQ.out.size (fun k hk => by injection hk with hk; omega)); have hlal : la.length = 16 := by rw [ela]; exact hrl
     have hsul : su.length = 16 := by rw [esu]; exact h1
     rw [<- ela, <- esu] at HMB; clear ela esu G6 GX D6 hat HRR e6; obtain ⟨y7, ey7⟩ : ∃ y7, y7 = y6 := ⟨_, rfl⟩; rw [<- ey7] at BX BU BV BS HGx BRx RQ ⊢; clear ey7
    case' neg =>
     have hlt : m < 16 := by omega
     have hmJ : ¬ (m : Int) = 16 := by omega
     rw [if_neg (by omega), if_neg (by omega)] at HMB; have h7 : decide ((m : Int) = 16) = false := decide_eq_false hmJ; have h8 : ((m : Int) == 16) = false := by simpa using hmJ
     have HLT := qq hlt; clear hmJ hlt h16 hmI
     go_upto_region 10 with fail
     have hd0 : Below y5.heap.size y5 y5.drew := (Below.refl _ _).drew; refine take_start (S := fun w' => Blk w' s_ 229 ([Value.pointer (some ⟨g, 0, none⟩)] ++ (k1.map byteV ++ (k2.map byteV ++ []))).toArray) (by kernel_rfl) ?hPQ2 (BS.out.stays hd0) (fun hPQ hHeld => ?rest2)
     case hPQ2 => (repeat (with_reducible first | refine PQ.then ?_ | refine PQ.block ?_)); exact fun _ _ d _ _ h => by cases d <;> exact h
     refine take_val (i := 0) (d := (some 30)) (v := .slice A3 m c3) rfl rfl (by kernel_rfl) (by kernel_rfl) (by kernel_rfl) hPQ (by rfl) (fun wq hSw => ?_) hHeld ?_
     · go_simp; try with_reducible rfl
     try simp only [qp, qn]
     refine take_val (i := 2) (d := (some 32)) (v := .pointer (some ⟨s_, 17, none⟩)) rfl rfl (by kernel_rfl) (by kernel_rfl) (by kernel_rfl) hPQ (by rfl) (fun wq hSw => ?_) hHeld ?_
     · go_simp; try with_reducible rfl
     try simp only [qp, qn]
     refine take_val (i := 3) (d := (some 33)) (v := .agg (bytesC k2)) rfl rfl (by kernel_rfl) (by kernel_rfl) (by kernel_rfl) hPQ (by rfl) (fun wq hSw => exec_load_part 225 _ rfl s_ 17 229 ([Value.pointer (some ⟨g, 0, none⟩)] ++ k1.map byteV) (k2.map byteV) [] _ rfl (by rw [List.append_assoc]; exact hSw) (by simp [h1]) Tryz.underlying225 rfl (by rw [List.length_map, h2]; exact infoBlock)) hHeld ?_; try simp only [qp, qn]
     refine take_make (j := 1) (d := some 31) (R := fun v w' => v = .agg (bytesC (filledB rs)) ∧ Below y5.heap.size y5 w') rfl rfl (by kernel_rfl) rfl ((filled_any A3 m c3 rs _ ((HB.out.stays RQ.out).stays hd0) HLT.out).mono (fun e q h => ⟨_, h.1, rfl, hd0.trans (h.2.mono hd0.size)⟩)) (by go_simp) (fun v2 y6 h2 => ?_); obtain ⟨rfl, hb6⟩ := h2; refine ⟨BS.out.stays hb6, ?_⟩; try simp only [qp, qn]
     have hfl : (filledB rs).length = 16 := filledB_length (by rw [hrl]; exact HLT.out); have sx : s_ ≠ x_ := by intro e; omega
     have su_ : s_ ≠ u_ := by intro e; omega
     refine take_store_blk (j := 4) rfl rfl (by kernel_rfl) rfl 225 _ _ rfl x_ 225 z16 (filledB rs) rfl rfl (BX.out.stays hb6) (by rw [hfl]; rfl) (by rw [hfl]; exact infoBlock) (fun w2 hg => (BS.out.stays hb6).grown hg (by intro e; injection e with e; exact sx e)) (fun y7 BX7 hg7 => ?_); refine take_store_blk (j := 5) rfl rfl (by kernel_rfl) rfl 225 _ _ rfl u_ 225 k1 k2 rfl rfl ((BU.out.stays hb6).grown hg7 (by intro e; injection e with e; exact hxu e.symm)) (by rw [h1, h2]) (by rw [h2]; exact infoBlock) (fun w2 hg => ((BS.out.stays hb6).grown hg7 (by intro e; injection e with e; exact sx e)).grown hg (by intro e; injection e with e; exact su_ e)) (fun y8 BU8 hg8 => ?_); refine wpAnyH_done (by kernel_rfl) ?_ _; obtain ⟨la, su, ela, esu⟩ : ∃ la su, la = filledB rs ∧ su = k2 := ⟨_, _, rfl, rfl⟩; have BX := qq (BX7.grown hg8 (by intro e; injection e with e; exact hxu e)); rw [<- ela] at BX; have BU := qq BU8; rw [<- esu] at BU; have BV := qq (((BV.out.stays hb6).grown hg7 (by intro e; injection e with e; omega)).grown hg8 (by intro e; injection e with e; omega)); have BS := qq (((BS.out.stays hb6).grown hg7 (by intro e; injection e with e; omega)).grown hg8 (by intro e; injection e with e; omega)); have HGx := qq (((HGx.out.stays hb6).grown hg7 (by intro e; injection e with e; omega)).grown hg8 (by intro e; injection e with e; omega)); have BRx := qq (((BRx.out.stays hb6).grown hg7 (by intro e; injection e with e; omega)).grown hg8 (by intro e; injection e with e; omega)); have RQ6 := RQ.out.trans (hb6.mono RQ.out.size); have RQ7 := RQ6.grown hg7 RQ6.size (fun k hk => by injection hk with hk; omega); have RQ := qq (RQ7.grown hg8 RQ7.size (fun k hk => by injection hk with hk; omega)); have hlal : la.length = 16 := by rw [ela]; exact hfl
     have hsul : su.length = 16 := by rw [esu]; exact h2
     rw [<- ela, <- esu] at HMB; clear ela esu hfl hb6 BX7 hg7 BU8 hg8 RQ6 RQ7 hHeld hd0 h7 h8 HLT hPQ sx su_; obtain ⟨y7, ey7⟩ : ∃ y7, y7 = y8 := ⟨_, rfl⟩; rw [<- ey7] at BX BU BV BS HGx BRx RQ ⊢; clear ey7
    all_goals
     go_wp2_with fail
     refine (blockXor_any v_ 0 x_ _ v la _ BV.out hmv (At.of_blk BX.out) hlal (by omega)).mono ?_; rintro e z1 ⟨rfl, hbv, hg1⟩; have BV := qq hbv; have BU := qq (BU.out.grown hg1 (by intro e; injection e with e; omega)); have BS := qq (BS.out.grown hg1 (by intro e; injection e with e; omega)); have HGx := qq (HGx.out.grown hg1 (by intro e; injection e with e; omega)); have BRx := qq (BRx.out.grown hg1 (by intro e; injection e with e; omega)); have RQ := qq (RQ.out.grown hg1 RQ.out.size (fun k hk => by injection hk with hk; omega)); clear hbv hg1
     go_wp2_with fail
     refine (blockXor_any v_ 0 u_ _ (xorB v la) su _ BV.out (by rw [xorB_length, hmv]) (At.of_blk BU.out) hsul (by omega)).mono ?_; rintro e z2 ⟨rfl, hbv, hg1⟩; have BV := qq hbv; have BS := BS.out.grown hg1 (by intro e; injection e with e; omega); have HGx := qq (HGx.out.grown hg1 (by intro e; injection e with e; omega)); have BRx := qq (BRx.out.grown hg1 (by intro e; injection e with e; omega)); have RQ := qq (RQ.out.grown hg1 RQ.out.size (fun k hk => by injection hk with hk; omega)); have cS : z2.cell? ⟨s_, 0, none⟩ = some (.pointer (some ⟨g, 0, none⟩)) := by rw [BS.cell]; rfl
     clear hbv hg1
     go_wp2_with fail
     refine (encrypt_any g v_ _ ks (xorB (xorB v la) su) _ HGx.out hks BV.out (by rw [xorB_length, xorB_length, hmv]) (by omega)).mono ?_; rintro e z3 ⟨rfl, hbv, hg1⟩; have BV := qq hbv; have BRx := qq (BRx.out.grown hg1 (by intro e; injection e with e; omega)); have RQ := qq (RQ.out.grown hg1 RQ.out.size (fun k hk => by injection hk with hk; omega)); obtain ⟨t, ht⟩ : ∃ t, aesB ks (xorB (xorB v la) su) = t := ⟨_, rfl⟩; have htl : t.length = 16 := by rw [<- ht, aesB_length, xorB_length, xorB_length, hmv]
     rw [ht] at BV HMB; clear hbv hg1 ht cS BS
     go_wp2_with (first | (refine wpList_load_blk rfl 225 _ rfl v_ _ t _ rfl BV.out Tryz.underlying225 rfl (by rw [htl]; exact infoBlock) ?_) | (refine wpList_store_blk rfl 225 _ _ rfl r_ _ z16 t rfl rfl BRx.out (by rw [htl]; rfl) (by rw [htl]; exact infoBlock) ?_; intro z4 D4 G4))
     have RE := RQ.out.grown G4 RQ.out.size (fun k hk => by injection hk with hk; omega); refine bodyPost_ret (results_blk rfl _ _ r_ _ t _ rfl D4 Tryz.underlying225 rfl (by rw [htl]; exact infoBlock)) rfl ⟨by rw [HMV.out, HMB.out], RE⟩
def vecD (ks k1 k2 : List UInt8) (ls : List (List UInt8)) : Nat -> List UInt8
 | 0 => macB ks k1 k2 z16
 | i + 1 => xorB (twiceB (vecD ks k1 k2 ls i)) (macB ks k1 k2 (listAt ls i))
theorem vecD_length (ks k1 k2 : List UInt8) (ls : List (List UInt8)) : ∀ i, (vecD ks k1 k2 ls i).length = 16
 | 0 => macB_length _ _ _ _
 | i + 1 => by rw [vecD, xorB_length, twiceB_length]
def vecB (ks k1 k2 : List UInt8) (ls : List (List UInt8)) : List UInt8 :=
 if 16 <= (listAt ls (ls.length - 1)).length then macB ks k1 k2 ((listAt ls (ls.length - 1)).take ((listAt ls (ls.length - 1)).length - 16) ++ xorB ((listAt ls (ls.length - 1)).drop ((listAt ls (ls.length - 1)).length - 16)) (vecD ks k1 k2 ls (ls.length - 1)))
 else macB ks k1 k2 (xorB (twiceB (vecD ks k1 k2 ls (ls.length - 1))) (filledB (listAt ls (ls.length - 1))))
theorem blk_bytes {w : World} {b : Nat} {T : TypeId} {l : List UInt8} (h : Blk w b T (bytesC l)) (hl : l.length <= maxLen) : Bytes w (some ⟨b, 0, none⟩) l.length l.length l :=
 own_rd (own_made (B := 0) (Nat.zero_le _) h (Nat.le_refl _) hl (bytesC_size l) (by unfold bytesC; rw [List.take_of_length_le (by simp)]))
theorem blk_bytes16 {w : World} {b : Nat} {T : TypeId} {l : List UInt8} (h : Blk w b T (bytesC l)) (hl : l.length = 16) : Bytes w (some ⟨b, 0, none⟩) 16 16 l := by
 have := blk_bytes h (by rw [hl]; decide); rw [hl] at this; exact this
theorem make_z16 (w : World) : (Instr.makeSlice 27 (.int .i64 16) (.int .i64 16)).run Tryz.prog w =
    .ok (.slice (some ⟨w.heap.size, 0, none⟩) 16 16) (w.alloc (.cells (bytesC z16) 5)) := by
 obtain ⟨i0, hi, hz0, hz1, hz2⟩ := info_parts infoByteA; have := run_make (P := Tryz.prog) w 27 5 i0 (.int .u8 0) Tryz.underlying27 hi hz0 .i64 .i64 16 16 (by omega) (by omega) (by rw [hz2]; omega) (by omega); have e : madeCells #[Value.int .u8 0] 16 = bytesC z16 := by kernel_rfl
 rw [<- e]
 simpa [hz1, Value.cells] using this
theorem run_made {P : Program} {o : Oper} {a : Act} {w w2 : World} {t : TypeId} {x y : Operand} {v : Value} (ho : o.op = .makeSlice t x y) (h : (Instr.makeSlice t (a.eval x) (a.eval y)).run P w = .ok v w2) : (execOp a.eval o).run P w = .ok (.value v) w2 := by
 unfold execOp; simp only [ho, Sem.run_bind, h, Result.andThen_ok, Sem.run_pure]
theorem vector_any (g : Nat) (ks k1 k2 : List UInt8) (A : Option Addr) (n c : Nat) (ls : List (List UInt8)) (w : World) (hg : Blk w g 243 (bytesC ks)) (hks : ks.length = 176) (h1 : k1.length = 16) (h2 : k2.length = 16) (hv : Lists w A n c ls) (hn : 0 < n) (hb : ∀ i, (listAt ls i).length <= 1000000) : Calls Tryz.prog 155 #[.agg (keysL (.pointer (some ⟨g, 0, none⟩)) k1 k2).toArray, .slice A n c] w fun e w' => e = .returned (.agg (bytesC (vecB ks k1 k2 ls))) ∧ Below w.heap.size w w' := by
 have HV := qq hv; have HL := qq hv.len; have HG := qq hg; have HB := qq hb; have glt := hg.lt; have cle := hv.le; have ccap := hv.cap; clear hv hg hb; have hkl : (keysL (.pointer (some ⟨g, 0, none⟩)) k1 k2).length = 33 := keysL_length h1 h2; have hko : ∀ v ∈ keysL (.pointer (some ⟨g, 0, none⟩)) k1 k2, v.oneCell' = true := keysL_one _ _ _; obtain ⟨kv, hkv⟩ : ∃ kv, keysL (.pointer (some ⟨g, 0, none⟩)) k1 k2 = kv := ⟨_, rfl⟩; rw [hkv] at hkl ⊢; have HMAC := qq (show ∀ (W : World) (A : Option Addr) (n c : Nat) (l : List UInt8), Below w.heap.size w W -> Bytes W A n c l -> Calls Tryz.prog 156 #[.agg kv.toArray, .slice A n c] W fun e w' => ∃ v, e = .returned v ∧ (v = .agg (bytesC (macB ks k1 k2 l)) ∧ Below W.heap.size W w') from fun W A n c l hbe hy => by
  rw [<- hkv]; exact (cmac1_any g ks k1 k2 A n c l W (HG.out.stays hbe) hks h1 h2 hy).mono (fun e q h => ⟨_, h.1, rfl, h.2⟩))
 clear hkv hko
 go_enter Tryz.func155, Tryz.ntmps155
 go_upto_region 1 with fail
 rw [<- zero16L]; obtain ⟨y1, s_, r_, ey1, es_, er_⟩ : ∃ y1 s_ r_, y1 = (w.alloc (.cells kv.toArray 229)).alloc (.cells (bytesC (List.replicate 16 0)) 225) ∧ s_ = w.heap.size ∧ r_ = w.heap.size + 1 := ⟨_, _, _, rfl, rfl, rfl⟩; rw [<- ey1, <- er_, <- es_]; have hbx : Below w.heap.size w y1 := by rw [ey1]; exact below_alloc2 _ _ _
 have BS := qq (show Blk y1 s_ 229 kv.toArray by rw [ey1, es_]; exact blk_new2_0 _ _ _ _ _); have BR := qq (show Blk y1 r_ 225 (bytesC z16) by rw [ey1, er_]; exact blk_new2_1 _ _ _ _ _); have hgs : g < s_ := by omega
 have hsr : s_ < r_ := by omega
 have ws : w.heap.size <= s_ := by omega
 have wr0 : w.heap.size <= r_ := by omega
 have R1 := qq hbx; have rlt := BR.out.lt; clear hbx ey1 es_ er_; have nI : (1 : Int) <= (n : Int) := by omega
 obtain ⟨N, hN⟩ : ∃ N, n = N + 1 := ⟨n - 1, by omega⟩; subst hN; have eN : ((N + 1 : Nat) : Int) - 1 = (N : Int) := by omega
 go_upto_region 2 with fail
 refine take_start (S := fun w' => Below y1.heap.size y1 w') (by kernel_rfl) ?hPQ1 (Below.refl _ _).drew (fun hPQ hHeld => ?rest1)
 case hPQ1 => (repeat (with_reducible first | refine PQ.then ?_ | refine PQ.block ?_)); exact fun _ _ d _ _ h => by cases d <;> exact h
 refine take_val (i := 0) (d := (some 17)) (v := .agg kv.toArray) rfl rfl (by kernel_rfl) (by kernel_rfl) (by kernel_rfl) hPQ (by rfl) (fun wq hSw => exec_load_part 229 _ rfl s_ 0 229 [] kv [] _ rfl (by rw [List.append_nil, List.nil_append]; exact BS.out.stays hSw) rfl Tryz.underlying229 rfl (by rw [hkl]; exact infoKeys)) hHeld ?_; try simp only [qp, qn]
 refine meetW2 (A := Nat) (B := Nat) (R := fun x b w' => y1.heap.size <= x ∧ Blk w' x 225 (bytesC z16) ∧ Below y1.heap.size y1 w') (C := ?C_1) (fun hC => ?path_1) (fun x_ bm y3 hR => ?fin_1)
 case path_1 =>
  have hd0 : Below y1.heap.size y1 y1.drew := (Below.refl _ _).drew; refine take_or (i := 1) (j := 3) (by kernel_rfl) ?ia ?ib
  case ia =>
   refine op_row (T := 5) (z := bytesC z16) (n := 16) (c := 16) rfl rfl rfl (run_made rfl (make_z16 _)) (fun b z1 hb BB hz1 => ⟨hd0.trans (hz1.mono hd0.size), ?_⟩); have q1 := hd0.trans (hz1.mono hd0.size); try simp only [qp, qn]
   refine take_or (i := 2) (j := 3) (by kernel_rfl) ?ja ?jb
   case ja =>
    refine op_make rfl rfl rfl ?_ (HMAC.out z1 _ _ _ z16 (R1.out.trans (q1.mono R1.out.size)) (blk_bytes16 BB rfl)) (fun v z2 h2 => ?_)
    · go_simp
    obtain ⟨rfl, hx2⟩ := h2; have q2 := q1.trans (hx2.mono q1.size); refine ⟨q2, ?_⟩; try simp only [qp, qn]
    refine take_one (i := 3) (by kernel_rfl) ?_; refine op_alloc (T := 225) (z := bytesC z16) rfl rfl rfl ?_ (fun x z3 hx BX hz3 => ⟨q2.trans (hz3.mono q2.size), ?_⟩)
    · go_simp; rfl
    have BX := qq BX; have q3 := q2.trans (hz3.mono q2.size); try simp only [qp, qn]
    refine relist (L' := #[true, true, true, true, false]) (by kernel_rfl) ?_; exact hC x b z3 ⟨Nat.le_trans q2.size hx, BX.out, q3⟩
   case jb =>
    refine op_alloc (T := 225) (z := bytesC z16) rfl rfl rfl ?_ (fun x z2 hx BX hz2 => ⟨q1.trans (hz2.mono q1.size), ?_⟩)
    · go_simp; rfl
    have BX := qq BX; have q2 := q1.trans (hz2.mono q1.size); try simp only [qp, qn]
    have BB := BB.stays hz2; refine take_one (i := 2) (by kernel_rfl) ?_; refine op_make rfl rfl rfl ?_ (HMAC.out z2 _ _ _ z16 (R1.out.trans (q2.mono R1.out.size)) (blk_bytes16 BB rfl)) (fun v z3 h2 => ?_)
    · go_simp
    obtain ⟨rfl, hx2⟩ := h2; have q3 := q2.trans (hx2.mono q2.size); refine ⟨q3, ?_⟩; try simp only [qp, qn]
    refine relist (L' := #[true, true, true, true, false]) (by kernel_rfl) ?_; exact hC x b z3 ⟨Nat.le_trans q1.size hx, BX.out.stays hx2, q3⟩
  case ib =>
   refine op_alloc (T := 225) (z := bytesC z16) rfl rfl rfl ?_ (fun x z1 hx BX hz1 => ⟨hd0.trans (hz1.mono hd0.size), ?_⟩)
   · go_simp; rfl
   have BX := qq BX; have q1 := hd0.trans (hz1.mono hd0.size); try simp only [qp, qn]
   refine take_one (i := 1) (by kernel_rfl) ?_; refine op_row (T := 5) (z := bytesC z16) (n := 16) (c := 16) rfl rfl rfl (run_made rfl (make_z16 _)) (fun b z2 hb BB hz2 => ⟨q1.trans (hz2.mono q1.size), ?_⟩); have q2 := q1.trans (hz2.mono q1.size); try simp only [qp, qn]
   have BX := qs BX hz2; refine take_one (i := 2) (by kernel_rfl) ?_; refine op_make rfl rfl rfl ?_ (HMAC.out z2 _ _ _ z16 (R1.out.trans (q2.mono R1.out.size)) (blk_bytes16 BB rfl)) (fun v z3 h2 => ?_)
   · go_simp
   obtain ⟨rfl, hx2⟩ := h2; have q3 := q2.trans (hx2.mono q2.size); refine ⟨q3, ?_⟩; try simp only [qp, qn]
   refine relist (L' := #[true, true, true, true, false]) (by kernel_rfl) ?_; exact hC x b z3 ⟨Nat.le_trans hd0.size hx, BX.out.stays hx2, q3⟩
 case fin_1 =>
 obtain ⟨hx0, BX, hHeld⟩ := hR; obtain ⟨d0, hd0⟩ : ∃ d0, macB ks k1 k2 z16 = d0 := ⟨_, rfl⟩; have hdl : d0.length = 16 := by rw [<- hd0]; exact macB_length _ _ _ _
 have HD := qq (show vecD ks k1 k2 ls 0 = d0 from hd0); rw [hd0]; refine take_store_blk (j := 4) rfl rfl (by kernel_rfl) rfl 225 _ _ rfl x_ 225 z16 d0 rfl rfl BX (by rw [hdl]; rfl) (by rw [hdl]; exact infoBlock) (fun w2 hg => hHeld.grown hg hHeld.size (fun k hk => by injection hk with hk; rw [<- hk]; exact hx0)) (fun y4 BX4 hg4 => ?_); have hHeld4 : Below y1.heap.size y1 y4 := hHeld.grown hg4 hHeld.size (fun k hk => by injection hk with hk; rw [<- hk]; exact hx0); refine wpAnyH_done (by kernel_rfl) ?_ _; have BS := qs BS hHeld4; have BR := qs BR hHeld4; have BX := qq BX4; have RQ := qt R1 hHeld4; have rx : r_ < x_ := Nat.lt_of_lt_of_le rlt hx0; have xlt := BX.out.lt; clear hHeld hHeld4 BX4 hg4 hx0 hd0 hPQ rlt R1
 go_wp2_with fail
 go_loopw [24] (fun s wr => ∃ (j : Nat), s = .int .i64 j ∧ Hid (j <= N) ∧ Hid (Blk wr x_ 225 (bytesC (vecD ks k1 k2 ls j))) ∧ y4.grownBy wr (some x_)) (fun s _ => match s with | .int _ j => (N - j).toNat | _ => 0)
 case atStart => exact ⟨0, rfl, Nat.zero_le _, qq (by rw [HD.out]; exact BX.out), World.grownBy.refl _ _⟩
 case round =>
  clear BX; obtain ⟨j, rfl, HJ, BX, hgr⟩ := hrel; have GQ := qq hgr; have RW := qq (RQ.out.grown hgr RQ.out.size (fun k hk => by injection hk with hk; omega)); clear hgr; have hvl := vecD_length ks k1 k2 ls j
  by_cases hj : j < N
  · have hjI : (j : Int) < (N : Int) := by omega
    have hj1 : (j : Int) < ((N + 1 : Nat) : Int) := by omega
    obtain ⟨b, off, A2, n2, c2, eA, hc0, hb2⟩ := HV.out.at_ (show j < N + 1 by omega); subst eA; have hc2 := cell_stays RW.out hc0; have HB2 := qq hb2; have HN : Hid (vecD ks k1 k2 ls (j + 1) = xorB (twiceB (vecD ks k1 k2 ls j)) (macB ks k1 k2 (listAt ls j))) := rfl; obtain ⟨v, hvv⟩ : ∃ v, vecD ks k1 k2 ls j = v := ⟨_, rfl⟩; rw [hvv] at BX HN hvl; obtain ⟨t, htt⟩ : ∃ t, listAt ls j = t := ⟨_, rfl⟩; rw [htt] at HB2 HN; clear hb2 hvv htt hc0
    go_upto_region 6 with fail
    go_wp2_with (refine wpList_load_blk rfl 225 _ rfl x_ _ v _ rfl BX.out Tryz.underlying225 rfl (by rw [hvl]; exact infoBlock) ?_)
    refine (twice_any v _ hvl).mono ?_; rintro e y5 ⟨rfl, hb5⟩; have BX := qs BX hb5; have BSw := BS.out.grown GQ.out (by intro e; injection e with e; omega); have BS5 := qq (BSw.stays hb5); have G5 := qq (GQ.out.trans (grown_of_below hb5 (some x_))); have htl := twiceB_length v; obtain ⟨d, hdd⟩ : ∃ d, twiceB v = d := ⟨_, rfl⟩; rw [hdd] at HN htl ⊢; clear hb5 hdd hc2 BSw
    go_upto_region 7 with (refine wpList_store_blk rfl 225 _ _ rfl x_ _ v d rfl rfl BX.out (by rw [htl, hvl]) (by rw [htl]; exact infoBlock) ?_; intro y6 D6 G6)
    have BX := qq D6; have BS6 := qq (BS5.out.grown G6 (by intro e; injection e with e; omega)); have GQ := qq (G5.out.trans G6); have RW := qq (RQ.out.grown GQ.out RQ.out.size (fun k hk => by injection hk with hk; omega)); clear D6 G6 G5 BS5
    go_wp2_with (refine wpList_load_part rfl 229 _ rfl s_ 0 229 [] kv [] _ rfl (by rw [List.append_nil, List.nil_append]; exact BS6.out) rfl Tryz.underlying229 rfl (by rw [hkl]; exact infoKeys) ?_)
    refine (HMAC.out y6 A2 n2 c2 t RW.out (HB2.out.stays RW.out)).mono ?_; rintro e y7 ⟨_, rfl, rfl, hb7⟩; have BX := qs BX hb7; have GQ := qq (GQ.out.trans (grown_of_below hb7 (some x_))); have hml : (macB ks k1 k2 t).length = 16 := macB_length _ _ _ _; obtain ⟨q, hq⟩ : ∃ q, macB ks k1 k2 t = q := ⟨_, rfl⟩; rw [hq] at HN hml ⊢; clear hb7 hq BS6
    go_upto_region 8 with (refine wpList_store_part rfl 225 _ _ rfl y7.heap.size 0 225 [] (z16.map byteV) [] (q.map byteV) rfl rfl (Blk.new _ _ _) rfl (by rw [List.length_map, hml]; rfl) (by rw [List.length_map, hml]; exact infoBlock) (oneCell_bytes q) ?_; intro y8 D8 G8; rw [List.append_nil, List.nil_append] at D8)
    have hb8 := below_new_store G8; obtain ⟨m_, em⟩ : ∃ m_, m_ = y7.heap.size := ⟨_, rfl⟩; rw [<- em] at D8 ⊢; have hxm : x_ < m_ := by rw [em]; exact BX.out.lt
    have AX := qq (At.of_blk (l := q) D8); have BX := qs BX hb8; have GQ := qq (GQ.out.trans (grown_of_below hb8 (some x_))); clear hb8 D8 G8 em
    go_wp2_with fail
    refine (blockXor_any x_ 0 m_ _ d q _ BX.out htl AX.out hml (by omega)).mono ?_; rintro e y9 ⟨rfl, hbv, hg9⟩; have GQ := qq (GQ.out.trans hg9); rw [<- HN.out] at hbv; have BX := qq hbv; clear hbv hg9; go_wp2
    go_roundw
    case rel => exact ⟨j + 1, by simp, qq (by omega), BX.out, GQ.out⟩
    case measure => simp; omega
  · have ej : j = N := Nat.le_antisymm (show j <= N from HJ.out) (Nat.le_of_not_lt hj); subst ej; obtain ⟨b, off, A2, n2, c2, eA, hc0, hb2⟩ := HV.out.at_ (show j < j + 1 by omega); subst eA; have hc2 := cell_stays RW.out hc0; have HC0 := qq hc0; have HB2 := qq hb2; have hnl : ls.length - 1 = j := by rw [HL.out]; rfl
    have HVB : Hid (vecB ks k1 k2 ls = if 16 <= (listAt ls j).length then macB ks k1 k2 ((listAt ls j).take ((listAt ls j).length - 16) ++ xorB ((listAt ls j).drop ((listAt ls j).length - 16)) (vecD ks k1 k2 ls j)) else macB ks k1 k2 (xorB (twiceB (vecD ks k1 k2 ls j)) (filledB (listAt ls j)))) := by unfold Hid vecB; rw [hnl]
    have hbt := HB.out j; obtain ⟨v, hvv⟩ : ∃ v, vecD ks k1 k2 ls j = v := ⟨_, rfl⟩; rw [hvv] at BX HVB hvl; obtain ⟨t, htt⟩ : ∃ t, listAt ls j = t := ⟨_, rfl⟩; rw [htt] at HB2 HVB hbt; obtain ⟨vb, hvb⟩ : ∃ vb, vecB ks k1 k2 ls = vb := ⟨_, rfl⟩; rw [hvb] at HVB; have HVV := qq hvb; have hn2 := HB2.out.len; have jI : (j : Int) < ((j + 1 : Nat) : Int) := by omega
    have j0 : (0 : Int) <= (j : Int) := by omega
    clear hb2 hvv htt hc0 hnl hvb
    by_cases h16 : 16 <= n2
    · rw [hn2, if_pos h16] at HVB; obtain ⟨K, eK⟩ : ∃ K, n2 = K + 16 := ⟨n2 - 16, by omega⟩; rw [show n2 - 16 = K by omega] at HVB; obtain ⟨b2, off2, rfl, _⟩ := HB2.out.at_ (show 0 < n2 by omega); have hmc := HB2.out.le; have hcm := HB2.out.cap; have h7 : decide ((n2 : Int) ≥ 16) = true := decide_eq_true (by omega); have h8 : (n2 : Int) ≥ 16 := by omega
      have e8 : (n2 : Int) - 16 = (K : Int) := by omega
      have EK := qq eK; clear eK h16; have hat := fun (W : World) => run_arrayAt (P := Tryz.prog) W 225 5 16 (some ⟨b2, off2 + K, none⟩) (n2 - K) (c2 - K) Tryz.underlying225 (by have := EK.out; omega)
      have HDR := qq (show Bytes w (some ⟨b2, off2 + K, none⟩) (n2 - K) (c2 - K) (t.drop K) from by
       have e9 := EK.out; have h := HB2.out.cut K n2 (by omega) (Nat.le_refl _); rw [if_neg (by omega), Option.map_some, add_off, List.take_of_length_le (by rw [List.length_drop]; omega)] at h; exact h)
      have htd : (t.drop K).length = 16 := by rw [List.length_drop, hn2]; have := EK.out; omega
      obtain ⟨u, hu⟩ : ∃ u, t.drop K = u := ⟨_, rfl⟩; rw [hu] at HDR htd HVB; have HRR := qq ((HDR.out.stays RW.out).range 16); rw [List.take_of_length_le (by omega)] at HRR; have m1 : (K : Int) <= (n2 : Int) := by have := EK.out; omega
      have m2 : ¬ c2 = K := by have := EK.out; omega
      clear hu
      go_upto_region 13 with fail
      go_upto_region 14 with (first | (refine wpList_load_mid rfl 225 _ rfl b2 (off2 + K) rfl (u.map byteV) _ HRR.out Tryz.underlying225 rfl (by rw [List.length_map, htd]; exact infoBlock) ?_) | (refine wpList_store_part rfl 225 _ _ rfl wr.heap.size 0 225 [] (z16.map byteV) [] (u.map byteV) rfl rfl (Blk.new _ _ _) rfl (by rw [List.length_map, htd]; rfl) (by rw [List.length_map, htd]; exact infoBlock) (oneCell_bytes u) ?_; intro y5 D5 G5; rw [List.append_nil, List.nil_append] at D5))
      have hb5 := below_new_store G5; obtain ⟨m_, em⟩ : ∃ m_, m_ = wr.heap.size := ⟨_, rfl⟩; rw [<- em] at D5 ⊢; have hxm : x_ < m_ := by rw [em]; exact BX.out.lt
      have BM := qq D5; have BX := qs BX hb5; have BS5 := qq ((BS.out.grown GQ.out (by intro e; injection e with e; omega)).stays hb5); have BR5 := qq ((BR.out.grown GQ.out (by intro e; injection e with e; omega)).stays hb5); have RW := qt RW hb5; clear hb5 D5 G5 em hat HRR
      go_wp2_with fail
      refine (blockXor_any m_ 0 x_ _ u v _ BM.out htd (At.of_blk BX.out) hvl (by omega)).mono ?_; rintro e y6 ⟨rfl, hbv, hg6⟩; have BM := qq hbv; have BS6 := qq (BS5.out.grown hg6 (by intro e; injection e with e; omega)); have BR6 := qq (BR5.out.grown hg6 (by intro e; injection e with e; omega)); have RW := qq (RW.out.grown hg6 RW.out.size (fun k hk => by injection hk with hk; omega)); have hxl : (xorB u v).length = 16 := by rw [xorB_length, htd]
      obtain ⟨x, hx⟩ : ∃ x, xorB u v = x := ⟨_, rfl⟩; rw [hx] at HVB hxl BM; clear hbv hg6 hx BS5 BR5
      go_upto_region 15 with fail
      have m3 : ¬ c2 < K := by have := EK.out; omega
      have m4 : ¬ c2 = 0 := by have := EK.out; omega
      have hd0 : Below y6.heap.size y6 y6.drew := (Below.refl _ _).drew; refine take_start (S := fun w' => Blk w' s_ 229 kv.toArray) (by kernel_rfl) ?hPQ3 (BS6.out.stays hd0) (fun hPQ hHeld => ?rest3)
      case hPQ3 => (repeat (with_reducible first | refine PQ.then ?_ | refine PQ.block ?_)); exact fun _ _ d _ _ h => by cases d <;> exact h
      refine take_val (i := 0) (d := (some 51)) (v := .agg kv.toArray) rfl rfl (by kernel_rfl) (by kernel_rfl) (by kernel_rfl) hPQ (by rfl) (fun wq hSw => exec_load_part 229 _ rfl s_ 0 229 [] kv [] _ rfl (by rw [List.append_nil, List.nil_append]; exact hSw) rfl Tryz.underlying229 rfl (by rw [hkl]; exact infoKeys)) hHeld ?_; try simp only [qp, qn]
      refine take_val (i := 1) (d := (some 52)) (v := .slice (some ⟨b2, off2, none⟩) n2 c2) rfl rfl (by kernel_rfl) (by kernel_rfl) (by kernel_rfl) hPQ (by rfl) (fun wq hSw => ?_) hHeld ?_
      · go_simp; try with_reducible rfl
      try simp only [qp, qn]
      refine take_val (i := 2) (d := (some 53)) (v := .int .i64 K) rfl rfl (by kernel_rfl) (by kernel_rfl) (by kernel_rfl) hPQ (by rfl) (fun wq hSw => ?_) hHeld ?_
      · go_simp; try with_reducible rfl
      try simp only [qp, qn]
      refine take_val (i := 3) (d := (some 54)) (v := .slice (some ⟨b2, off2, none⟩) K c2) rfl rfl (by kernel_rfl) (by kernel_rfl) (by kernel_rfl) hPQ (by rfl) (fun wq hSw => ?_) hHeld ?_
      · go_simp; try with_reducible rfl
      try simp only [qp, qn]
      refine take_val (i := 5) (d := (some 56)) (v := .slice (some ⟨m_, 0, none⟩) 16 16) rfl rfl (by kernel_rfl) (by kernel_rfl) (by kernel_rfl) hPQ (by rfl) (fun wq hSw => ?_) hHeld ?_
      · go_simp; try with_reducible rfl
      try simp only [qp, qn]
      obtain ⟨i0, hi, hz0, hz1, hz2⟩ := info_parts infoByteA; have HT := qq (show Bytes w (some ⟨b2, off2, none⟩) K c2 (t.take K) from by
       have e9 := EK.out; have h := HB2.out.cut 0 K (Nat.zero_le _) (by omega); rw [if_neg (by omega), Option.map_some, add_off] at h; simpa using h)
      have RD := RW.out.trans (hd0.mono RW.out.size); refine take_one (i := 4) (by kernel_rfl) ?_; refine op_append (d := some 55) (B := y6.heap.size) rfl rfl rfl _ _ 27 rfl i0 (.int .u8 0) 1 Tryz.underlying27 hi hz0 hz1 hz2 rfl (by decide) rfl (own_nil _ _ _ _) rfl (HT.out.stays RD) (oneCell_bytes _) (by unfold maxLen; omega) (by have := EK.out; omega) hd0.size (fun A3 c3 y7 hown7 hg7 hb7 => ⟨BS6.out.stays (hd0.trans (hb7.mono hd0.size)), ?_⟩); try simp only [qp, qn]
      have q7 := hd0.trans (hb7.mono hd0.size); have OW := qq hown7; clear hown7 hg7; refine take_one (i := 6) (by kernel_rfl) ?_; refine op_append (d := some 57) (B := y6.heap.size) rfl rfl rfl _ _ 27 rfl i0 (.int .u8 0) 1 Tryz.underlying27 hi hz0 hz1 hz2 rfl (by decide) rfl OW.out rfl ((blk_bytes16 BM.out hxl).stays q7) (oneCell_bytes _) (by have := EK.out; unfold maxLen; omega) (by have := EK.out; omega) q7.size (fun A4 c4 y8 hown8 hg8 hb8 => ⟨BS6.out.stays (q7.trans hb8), ?_⟩); try simp only [qp, qn]
      have q8 := q7.trans hb8; have HB8 : Bytes y8 A4 (0 + K + 16) c4 (t.take K ++ x) := by
       have h := own_rd hown8; rw [List.nil_append, <- List.map_append] at h; exact h
      clear hown8 hg8 OW; refine take_make (j := 7) (d := some 58) (R := fun u w' => u = .agg (bytesC (macB ks k1 k2 (t.take K ++ x))) ∧ Below y8.heap.size y8 w') rfl rfl (by kernel_rfl) rfl ((HMAC.out y8 A4 _ c4 _ (RW.out.trans (q8.mono RW.out.size)) HB8).mono (fun e q h => by obtain ⟨u, h1, h2, h3⟩ := h; exact ⟨u, h1, h2, h3⟩)) (by go_simp) (fun u y9 h2 => ?_); obtain ⟨rfl, hb9⟩ := h2; have q9 := q8.trans (hb9.mono q8.size); refine ⟨BS6.out.stays q9, ?_⟩; try simp only [qp, qn]
      have hml : (macB ks k1 k2 (t.take K ++ x)).length = 16 := macB_length _ _ _ _; obtain ⟨m, hm⟩ : ∃ m, macB ks k1 k2 (t.take K ++ x) = m := ⟨_, rfl⟩; rw [hm] at HVB hml ⊢; have r6 := BR6.out.lt; have R6 := RW.out.size; refine take_store_blk (j := 8) rfl rfl (by kernel_rfl) rfl 225 _ _ rfl r_ 225 z16 m rfl rfl (BR6.out.stays q9) (by rw [hml]; rfl) (by rw [hml]; exact infoBlock) (fun w2 hg => (BS6.out.stays q9).grown hg (fun e => Nat.ne_of_lt hsr (Option.some.inj e))) (fun y11 D11 hg11 => ?_); have RE10 := RW.out.trans (q9.mono RW.out.size); have RE := RE10.grown hg11 RE10.size (fun k hk => by cases hk; exact wr0); clear hm hb9 hb8 hb7 hHeld HB8 hi hz0 hz1 hz2 HT RD m1 m2 m3 m4 e8 h7 h8 q7 q8 q9 r6 R6 RE10 hmc hcm HDR htd hxl BM HMAC; refine wpAnyH_done (by kernel_rfl) ?_ _
      go_wp2_with fail
      refine bodyPost_ret (results_blk rfl _ _ r_ _ m _ rfl D11 Tryz.underlying225 rfl (by rw [hml]; exact infoBlock)) rfl ⟨by rw [HVV.out, HVB.out], RE⟩
    · rw [hn2, if_neg h16] at HVB; have h7 : decide ((n2 : Int) ≥ 16) = false := decide_eq_false (by omega); have h8 : ¬ (n2 : Int) ≥ 16 := by omega
      have HLT := qq h16; clear h16
      go_upto_region 16 with fail
      go_wp2_with (refine wpList_load_blk rfl 225 _ rfl x_ _ v _ rfl BX.out Tryz.underlying225 rfl (by rw [hvl]; exact infoBlock) ?_)
      refine (twice_any v _ hvl).mono ?_; rintro e y5 ⟨rfl, hb5⟩; have BX := qs BX hb5; have BS5 := qq ((BS.out.grown GQ.out (by intro e; injection e with e; omega)).stays hb5); have BR5 := qq ((BR.out.grown GQ.out (by intro e; injection e with e; omega)).stays hb5); have RW := qt RW hb5; have htl := twiceB_length v; obtain ⟨d, hdd⟩ : ∃ d, twiceB v = d := ⟨_, rfl⟩; rw [hdd] at HVB htl ⊢; clear hb5 hdd hc2
      go_upto_region 17 with (refine wpList_store_blk rfl 225 _ _ rfl x_ _ v d rfl rfl BX.out (by rw [htl, hvl]) (by rw [htl]; exact infoBlock) ?_; intro y6 D6 G6)
      have BX := qq D6; have BS6 := qq (BS5.out.grown G6 (by intro e; injection e with e; omega)); have BR6 := qq (BR5.out.grown G6 (by intro e; injection e with e; omega)); have RW := qq (RW.out.grown G6 RW.out.size (fun k hk => by injection hk with hk; omega)); have hc2 := cell_stays RW.out HC0.out; clear D6 G6 BS5 BR5
      go_wp2_with fail
      refine (filled_any A2 n2 c2 t _ (HB2.out.stays RW.out) (by have := HLT.out; omega)).mono ?_; rintro e y7 ⟨rfl, hb7⟩; have BX := qs BX hb7; have BS7 := qs BS6 hb7; have BR7 := qs BR6 hb7; have RW := qt RW hb7; have hfl : (filledB t).length = 16 := filledB_length (by have := HLT.out; omega); obtain ⟨q, hq⟩ : ∃ q, filledB t = q := ⟨_, rfl⟩; rw [hq] at HVB hfl ⊢; clear hb7 hq BS6 BR6 hc2
      go_upto_region 18 with (refine wpList_store_part rfl 225 _ _ rfl y7.heap.size 0 225 [] (z16.map byteV) [] (q.map byteV) rfl rfl (Blk.new _ _ _) rfl (by rw [List.length_map, hfl]; rfl) (by rw [List.length_map, hfl]; exact infoBlock) (oneCell_bytes q) ?_; intro y8 D8 G8; rw [List.append_nil, List.nil_append] at D8)
      have hb8 := below_new_store G8; obtain ⟨m_, em⟩ : ∃ m_, m_ = y7.heap.size := ⟨_, rfl⟩; rw [<- em] at D8 ⊢; have hxm : x_ < m_ := by rw [em]; exact BX.out.lt
      have AX := qq (At.of_blk (l := q) D8); have BX := qs BX hb8; have BS7 := qs BS7 hb8; have BR7 := qs BR7 hb8; have RW := qt RW hb8; clear hb8 D8 G8 em
      go_wp2_with fail
      refine (blockXor_any x_ 0 m_ _ d q _ BX.out htl AX.out hfl (by omega)).mono ?_; rintro e y9 ⟨rfl, hbv, hg9⟩; have BX := qq hbv; have BS7 := qq (BS7.out.grown hg9 (by intro e; injection e with e; omega)); have BR7 := qq (BR7.out.grown hg9 (by intro e; injection e with e; omega)); have RW := qq (RW.out.grown hg9 RW.out.size (fun k hk => by injection hk with hk; omega)); have hxl : (xorB d q).length = 16 := by rw [xorB_length, htl]
      obtain ⟨x, hx⟩ : ∃ x, xorB d q = x := ⟨_, rfl⟩; rw [hx] at HVB hxl BX; clear hbv hg9 hx AX
      go_upto_region 19 with fail
      have hd0 : Below y9.heap.size y9 y9.drew := (Below.refl _ _).drew; refine take_start (S := fun w' => Blk w' s_ 229 kv.toArray) (by kernel_rfl) ?hPQ2 (BS7.out.stays hd0) (fun hPQ hHeld => ?rest2)
      case hPQ2 => (repeat (with_reducible first | refine PQ.then ?_ | refine PQ.block ?_)); exact fun _ _ d _ _ h => by cases d <;> exact h
      refine take_val (i := 0) (d := (some 67)) (v := .agg kv.toArray) rfl rfl (by kernel_rfl) (by kernel_rfl) (by kernel_rfl) hPQ (by rfl) (fun wq hSw => exec_load_part 229 _ rfl s_ 0 229 [] kv [] _ rfl (by rw [List.append_nil, List.nil_append]; exact hSw) rfl Tryz.underlying229 rfl (by rw [hkl]; exact infoKeys)) hHeld ?_; try simp only [qp, qn]
      refine take_val (i := 1) (d := (some 68)) (v := .slice (some ⟨x_, 0, none⟩) 16 16) rfl rfl (by kernel_rfl) (by kernel_rfl) (by kernel_rfl) hPQ (by rfl) (fun wq hSw => ?_) hHeld ?_
      · go_simp; try with_reducible rfl
      try simp only [qp, qn]
      refine take_make (j := 2) (d := some 69) (R := fun u w' => u = .agg (bytesC (macB ks k1 k2 x)) ∧ Below y9.heap.size y9 w') rfl rfl (by kernel_rfl) rfl ((HMAC.out y9.drew _ _ _ x (RW.out.trans (hd0.mono RW.out.size)) ((blk_bytes16 BX.out hxl).stays hd0)).mono (fun e q h => by obtain ⟨u, h1, h2, h3⟩ := h; exact ⟨u, h1, h2, hd0.trans (h3.mono hd0.size)⟩)) (by go_simp) (fun u y10 h2 => ?_); obtain ⟨rfl, hb10⟩ := h2; refine ⟨BS7.out.stays hb10, ?_⟩; try simp only [qp, qn]
      have hml : (macB ks k1 k2 x).length = 16 := macB_length _ _ _ _; obtain ⟨m, hm⟩ : ∃ m, macB ks k1 k2 x = m := ⟨_, rfl⟩; rw [hm] at HVB hml ⊢; refine take_store_blk (j := 3) rfl rfl (by kernel_rfl) rfl 225 _ _ rfl r_ 225 z16 m rfl rfl (BR7.out.stays hb10) (by rw [hml]; rfl) (by rw [hml]; exact infoBlock) (fun w2 hg => (BS7.out.stays hb10).grown hg (by intro e; injection e with e; omega)) (fun y11 D11 hg11 => ?_); have RE10 := RW.out.trans (hb10.mono RW.out.size); have RE := RE10.grown hg11 RE10.size (fun k hk => by injection hk with hk; omega); refine wpAnyH_done (by kernel_rfl) ?_ _
      go_wp2_with fail
      refine bodyPost_ret (results_blk rfl _ _ r_ _ m _ rfl D11 Tryz.underlying225 rfl (by rw [hml]; exact infoBlock)) rfl ⟨by rw [HVV.out, HVB.out], RE⟩
def s2vB (key : List UInt8) (ls : List (List UInt8)) : List UInt8 := vecB (keysB key) (k1B key) (k2B key) ls
theorem vecB_length (ks k1 k2 : List UInt8) (ls : List (List UInt8)) : (vecB ks k1 k2 ls).length = 16 := by
 unfold vecB; split <;> exact macB_length _ _ _ _
theorem s2vB_length (key : List UInt8) (ls : List (List UInt8)) : (s2vB key ls).length = 16 := vecB_length _ _ _ _
theorem cmacVector_any (A : Option Addr) (c : Nat) (key : List UInt8) (A2 : Option Addr) (n c2 : Nat) (ls : List (List UInt8)) (w : World) (hk : Bytes w A 16 c key) (hv : Lists w A2 n c2 ls) (hn : 0 < n) (hn2 : n <= 17) (hb : ∀ i, (listAt ls i).length <= 65535) :
    Calls Tryz.prog 138 #[.slice A 16 c, .slice A2 n c2] w fun e w' => ∃ A', e = .returned (.tuple #[.slice A' 16 16, .int .i64 0]) ∧ Bytes w' A' 16 16 (s2vB key ls) ∧ Fresh w.heap.size A' ∧ Below w.heap.size w w' := by
 have HK := qq hk; have HV := qq hv; have HB := qq hb; have cle := hv.le; have ccap := hv.cap; have HKL := qq hk.len; have nI : ¬ (17 : Int) < (n : Int) := by omega
 have nP : (0 : Int) < (n : Int) := by omega
 clear hk hv hb
 go_enter Tryz.func138, Tryz.ntmps138
 go_wp2_with fail
 refine (ready_any A c key _ HK.out).mono ?_; rintro e y1 ⟨g, rfl, hg, hblk, hb1⟩; have hkl : (keysL (.pointer (some ⟨g, 0, none⟩)) (k1B key) (k2B key)).length = 33 := keysL_length (k1B_length _) (k2B_length _); have hk1 : ∀ v ∈ keysL (.pointer (some ⟨g, 0, none⟩)) (k1B key) (k2B key), v.oneCell' = true := keysL_one _ _ _; have HVEC := qq (show ∀ (W : World), Below y1.heap.size y1 W -> Calls Tryz.prog 155 #[.agg (keysL (.pointer (some ⟨g, 0, none⟩)) (k1B key) (k2B key)).toArray, .slice A2 n c2] W fun e w' => e = .returned (.agg (bytesC (s2vB key ls))) ∧ Below W.heap.size W w' from fun W hbe =>
  vector_any g (keysB key) (k1B key) (k2B key) A2 n c2 ls W (hblk.stays hbe) (by have := wordsB_length key 40; unfold keysB; rw [this, HKL.out]) (k1B_length _) (k2B_length _) (HV.out.stays (hb1.trans (hbe.mono hb1.size))) hn (fun i => Nat.le_trans (HB.out i) (by decide)))
 obtain ⟨kv, hkv⟩ : ∃ kv, keysL (.pointer (some ⟨g, 0, none⟩)) (k1B key) (k2B key) = kv := ⟨_, rfl⟩; rw [hkv] at hkl hk1 HVEC ⊢; have HB1 := qq hb1; clear hkv hblk hg hb1
 go_upto_region 2 with (refine wpList_store_part rfl 229 _ _ rfl y1.heap.size 0 229 [] (keysL (.pointer none) z16 z16) [] kv rfl rfl (Blk.new _ _ _) rfl (by rw [hkl]; rfl) (by rw [hkl]; exact infoKeys) hk1 ?_; intro y2 D2 G2; rw [List.append_nil, List.nil_append] at D2)
 have hb2 := below_new_store G2; obtain ⟨k_, ek⟩ : ∃ k_, k_ = y1.heap.size := ⟨_, rfl⟩; rw [<- ek] at D2 ⊢; have BK := qq D2; have R2 := qq hb2; clear G2 D2 ek hb2
 go_upto_region 7 with fail
 go_loopw [26] (fun s wr => ∃ (j : Nat), s = .int .i64 j ∧ Hid (j <= n) ∧ wr = y2) (fun s _ => match s with | .int _ j => (n - j).toNat | _ => 0)
 case atStart => exact ⟨0, rfl, Nat.zero_le _, rfl⟩
 case round =>
  obtain ⟨j, rfl, HJ, hwr⟩ := hrel; subst hwr
  by_cases hj : j < n
  · have hjI : (j : Int) < (n : Int) := by omega
    obtain ⟨b, off, A3, n3, c3, eA, hc0, hb2⟩ := HV.out.at_ hj; subst eA; have hc3 := cell_stays (HB1.out.trans (R2.out.mono HB1.out.size)) hc0; have hl3 : ¬ (65535 : Int) < (n3 : Int) := by have := HB.out j; rw [hb2.len] at this; omega
    clear hb2 hc0; go_wp2
    go_roundw
    case rel => exact ⟨j + 1, by simp, qq (by omega), by first | rfl | trivial⟩
    case measure => simp; omega
  · have ej : j = n := Nat.le_antisymm (show j <= n from HJ.out) (Nat.le_of_not_lt hj); subst ej
    go_upto_region 13 with fail
    rw [<- zero16L]; obtain ⟨y3, x_, ey3, ex_⟩ : ∃ y3 x_, y3 = wr.alloc (.cells (bytesC (List.replicate 16 0)) 225) ∧ x_ = wr.heap.size := ⟨_, _, rfl, rfl⟩; rw [<- ey3, <- ex_]; have hbx : Below wr.heap.size wr y3 := by rw [ey3]; exact below_alloc1 _ _
    have BX := qq (show Blk y3 x_ 225 (bytesC z16) by rw [ey3, ex_]; exact blk_new1_0 _ _ _); have BK := qs BK hbx; have R3 := qt R2 hbx; have x1 : y1.heap.size <= x_ := by rw [ex_]; exact R2.out.size
    clear hbx ey3 ex_
    go_wp2_with (refine wpList_load_part rfl 229 _ rfl k_ 0 229 [] kv [] _ rfl (by rw [List.append_nil, List.nil_append]; exact BK.out) rfl Tryz.underlying229 rfl (by rw [hkl]; exact infoKeys) ?_)
    refine (HVEC.out _ R3.out).mono ?_; rintro e y4 ⟨rfl, hb4⟩; have hml := s2vB_length key ls; obtain ⟨m, hm⟩ : ∃ m, s2vB key ls = m := ⟨_, rfl⟩; have HM := qq hm; rw [hm] at hml ⊢; have BX := qs BX hb4; have R4 := qt R3 hb4; clear hm hb4
    go_wp2_with (refine wpList_store_blk rfl 225 _ _ rfl x_ _ z16 m rfl rfl BX.out (by rw [hml]; rfl) (by rw [hml]; exact infoBlock) ?_; intro y5 D5 G5)
    go_returns
    refine ⟨_, rfl, by rw [HM.out]; exact blk_bytes16 D5 hml, fun a ha => by cases ha; exact Nat.le_trans HB1.out.size x1, ?_⟩; have R5 := R4.out.grown G5 R4.out.size (fun k hk => by cases hk; exact x1); exact HB1.out.trans (R5.mono HB1.out.size)
theorem own_rd_one {w : World} {b : Nat} {T : TypeId} {v : Value} (h : Blk w b T #[v]) : Rd w 1 (some ⟨b, 0, none⟩) 1 1 [v] := own_rd (own_made (B := 0) (Nat.zero_le _) h (Nat.le_refl _) (by decide) rfl rfl)
theorem tag_any (key : List UInt8) (Ak : Option Addr) (ck : Nat) (A : Option Addr) (n c : Nat) (ls : List (List UInt8)) (Ap : Option Addr) (np cp : Nat) (l : List UInt8) (w : World) (hk : Bytes w Ak 32 ck key) (hv : Lists w A n c ls) (hp : Bytes w Ap np cp l) (hn : 0 < n) (hn2 : n <= 16) (hb : ∀ i, (listAt ls i).length <= 65519) (hl : np <= 65519) :
    Calls Tryz.prog 110 #[.slice Ak 32 ck, .slice A n c, .slice Ap np cp] w fun e w' => ∃ A', e = .returned (.tuple #[.slice A' 16 16, .int .i64 0]) ∧ Bytes w' A' 16 16 (s2vB (key.take 16) (ls ++ [l])) ∧ Fresh w.heap.size A' ∧ Below w.heap.size w w' := by
 have hcheck := qq (check_any Ak ck A n c ls w hv hn2 hb); have hlI : ¬ (65519 : Int) < (np : Int) := by omega
 have kle := hk.le; have klc := hk.cap; obtain ⟨b0, o0, rfl, _⟩ := hk.at_ (by decide : 0 < 32); have kc0 : ¬ ck < 16 := by omega
 have kc1 : ¬ ck = 0 := by omega
 have kc2 : ¬ (ck : Int) < 16 := by omega
 have HK16 := qq (show Bytes w (some ⟨b0, o0, none⟩) 16 ck (key.take 16) from by
  have h := hk.cut 0 16 (Nat.zero_le _) (by omega); rw [if_neg (by omega), Option.map_some, add_off] at h; simpa using h)
 have HL := qq hv; have HP := qq hp; have HB2 := qq (show ∀ i, (listAt (ls ++ [l]) i).length <= 65535 from fun i => by
  by_cases hi : i < ls.length
  · have e : listAt (ls ++ [l]) i = listAt ls i := by unfold listAt; simp [List.getD, List.getElem?_append_left hi]
    rw [e]; exact Nat.le_trans (hb i) (by decide)
  · by_cases hi2 : i = ls.length
    · subst hi2; have e : listAt (ls ++ [l]) ls.length = l := by unfold listAt; simp [List.getD]
      rw [e, hp.len]; omega
    · have e : listAt (ls ++ [l]) i = [] := by unfold listAt; rw [List.getD_eq_getElem?_getD, List.getElem?_eq_none (by rw [List.length_append, List.length_singleton]; omega)]; rfl
      rw [e]; exact Nat.zero_le _)
 clear hk hv hp hb; obtain ⟨i0, hi, hz0, hz1, hz2⟩ := info_parts infoBytesA
 go_enter Tryz.func110, Tryz.ntmps110
 go_wp2_with fail
 refine hcheck.out.mono ?_; rintro e w1 ⟨rfl, hbc⟩; have HBC := qq hbc; have CLONE := qq (fun W => cloneL_any A n c ls w1 W hn (by omega) (HL.out.stays hbc)); have HK1 := qs HK16 hbc; have HP1 := qs HP hbc; clear hcheck hbc
 go_upto_region 6 with fail
 refine mono_start (fun _ => True) [pv (.slice (some ⟨b0, o0, none⟩) 32 ck), pv (.slice (some ⟨b0, o0, none⟩) 16 ck), pv (.slice A n c), mv (fun v u => ∃ A1 c1 vs, v = .slice A1 n c1 ∧ u.ownsRow w1.heap.size 27 1 (.slice A1 n c1) n vs ∧ VL w1 vs ls), pv (.slice Ap np cp), mv (fun v u => ∃ b, v = .slice (some ⟨b, 0, none⟩) 1 1 ∧ Blk u b 27 #[.slice Ap np cp]), ev (fun v u => ∃ A1 c1, v = .slice A1 (n + 1) c1 ∧ Lists u A1 (n + 1) c1 (ls ++ [l])) [3, 5], mv (fun v u => ∃ A1, v = .tuple #[.slice A1 16 16, .int .i64 0] ∧ Bytes u A1 16 16 (s2vB (key.take 16) (ls ++ [l])) ∧ Fresh w1.heap.size A1), mv (fun v u => ∃ A1, v = .slice A1 16 16 ∧ Bytes u A1 16 16 (s2vB (key.take 16) (ls ++ [l])) ∧ Fresh w1.heap.size A1), pv (.int .i64 0), mv (fun v u => ∃ A1, v = .slice A1 16 16 ∧ Bytes u A1 16 16 (s2vB (key.take 16) (ls ++ [l])) ∧ Fresh w1.heap.size A1), pv (.int .i64 0)] (by kernel_rfl) (by kernel_rfl) (fun OPS AV AL K w0 hO hA hL hK hb0 hz => ?_); refine step_pv (d := (some 18)) (hO.out 0 _ rfl) rfl rfl (fun wq hw => ?_) ?_
 · clear hO hA hL hK
   go_simp; try with_reducible rfl
 try simp only [qp, qn]
 refine step_pv (d := (some 19)) (hO.out 1 _ rfl) rfl rfl (fun wq hw => ?_) ?_
 · clear hO hA hL hK
   go_simp; try with_reducible rfl
 try simp only [qp, qn]
 refine step_pv (d := (some 20)) (hO.out 2 _ rfl) rfl rfl (fun wq hw => ?_) ?_
 · clear hO hA hL hK
   go_simp; try with_reducible rfl
 try simp only [qp, qn]
 refine step_mc (d := (some 21)) (hO.out 3 _ rfl) rfl rfl (fun wq hw gt => ?_) (fun v_3 x_3 => ?_)
 · have hx : Below w1.heap.size w1 wq := hb0.trans (hw.mono hb0.size); refine ⟨_, _, ?_, (CLONE.out _ hx).mono (fun e q h => ?_)⟩
   · clear gt hO hA hL hK
     go_simp
   obtain ⟨A1, c1, vs, rfl, ho, hv, hb⟩ := h; exact ⟨_, rfl, ⟨A1, c1, vs, rfl, own_more ho hx.size, hv⟩, hb⟩
 try simp only [qp, qn]
 refine step_pv (d := (some 22)) (hO.out 4 _ rfl) rfl rfl (fun wq hw => ?_) ?_
 · clear hO hA hL hK
   go_simp; try with_reducible rfl
 try simp only [qp, qn]
 refine step_mv (d := (some 23)) (hO.out 5 _ rfl) rfl rfl (fun wq hw gt => ?_) (fun v_5 x_5 => ?_)
 · have hx : Below w1.heap.size w1 wq := hb0.trans (hw.mono hb0.size); refine ⟨_, _, ?_, ⟨_, rfl, Blk.new _ _ _⟩, (Below.refl _ _).alloc (Nat.le_refl _) _⟩; clear gt hO hA hL hK
   go_simp; try with_reducible rfl
 try simp only [qp, qn]
 refine step_ev (by simp) (d := (some 24)) (hO.out 6 _ rfl) rfl rfl (fun wq hw gt => ?_) (fun v_6 x_6 => ?_)
 · have hx : Below w1.heap.size w1 wq := hb0.trans (hw.mono hb0.size); obtain ⟨⟨A1, c1, vs, rfl, ho, hv⟩, hb3⟩ := (gt 3 (hA.out 6 3 (by kernel_rfl))); obtain ⟨⟨b, rfl, hB⟩, hb5⟩ := (gt 5 (hA.out 6 5 (by kernel_rfl))); obtain ⟨A2, c2, w2, hrun, h2, h3, h4⟩ := run_append_rd (P := Tryz.prog) 30 30 i0 (.slice none 0 0) 24 Tryz.underlying30 hi hz0 hz1 hz2 rfl (by decide) (own_below ho hb3) (own_rd_one (hB.stays hb5)) (by intro u hu; rw [List.mem_singleton.1 hu]; rfl) (by unfold maxLen; omega) (by omega) hx.size; have hb6 : Below w1.heap.size wq w2 := (Below.refl _ _).grown h3 hx.size (fun k hk => ((own_below ho hb3).lt k hk).1); refine ⟨_, w2, ?_, ⟨A2, c2, rfl, VL.lists ((hv.append (VL.one HP1.out)).stays (hx.trans hb6)) (own_rd h2)⟩, by rw [hz]; exact hb6⟩; clear gt hO hA hL hK; simp [execOp, resolve, invoke, builtin, Act.eval, hrun, Result.andThen]
 try simp only [qp, qn]
 refine step_mc (d := (some 25)) (hO.out 7 _ rfl) rfl rfl (fun wq hw gt => ?_) (fun v_7 x_7 => ?_)
 · have hx : Below w1.heap.size w1 wq := hb0.trans (hw.mono hb0.size); obtain ⟨⟨A1, c1, rfl, hl⟩, hb6⟩ := (gt 6 (hA.out 7 6 (by kernel_rfl))); refine ⟨_, _, ?_, (cmacVector_any _ ck (key.take 16) A1 (n + 1) c1 (ls ++ [l]) _ (HK1.out.stays hx) (hl.stays hb6) (by omega) (by omega) HB2.out).mono (fun e q h => ?_)⟩
   · clear gt hO hA hL hK
     go_simp
   obtain ⟨A2, rfl, h1, h2, h3⟩ := h; exact ⟨_, rfl, ⟨A2, rfl, h1, h2.more hx.size⟩, h3⟩
 try simp only [qp, qn]
 refine step_mv (d := (some 26)) (hO.out 8 _ rfl) rfl rfl (fun wq hw gt => ?_) (fun v_8 x_8 => ?_)
 · have hx : Below w1.heap.size w1 wq := hb0.trans (hw.mono hb0.size); obtain ⟨⟨A1, rfl, hB, hF⟩, hbk⟩ := (gt 7 (hA.out 8 7 (by kernel_rfl))); refine ⟨_, _, ?_, ⟨A1, rfl, hB.stays hbk, hF⟩, Below.refl _ _⟩; clear gt hO hA hL hK
   go_simp; try with_reducible rfl
 try simp only [qp, qn]
 refine step_pg (d := (some 27)) (hO.out 9 _ rfl) rfl rfl (fun wq hw gt => ?_) ?_
 · have hx : Below w1.heap.size w1 wq := hb0.trans (hw.mono hb0.size); obtain ⟨⟨A1, rfl, hB, hF⟩, hb7⟩ := (gt 7 (hA.out 9 7 (by kernel_rfl))); clear gt hO hA hL hK
   go_simp; try with_reducible rfl
 try simp only [qp, qn]
 refine step_mv (d := (some 6)) (hO.out 10 _ rfl) rfl rfl (fun wq hw gt => ?_) (fun v_10 x_10 => ?_)
 · have hx : Below w1.heap.size w1 wq := hb0.trans (hw.mono hb0.size); obtain ⟨⟨A1, rfl, hB, hF⟩, hbk⟩ := (gt 8 (hA.out 10 8 (by kernel_rfl))); refine ⟨_, _, ?_, ⟨A1, rfl, hB.stays hbk, hF⟩, Below.refl _ _⟩; clear gt hO hA hL hK
   go_simp; try with_reducible rfl
 try simp only [qp, qn]
 refine step_pv (d := (some 7)) (hO.out 11 _ rfl) rfl rfl (fun wq hw => ?_) ?_
 · clear hO hA hL hK
   go_simp; try with_reducible rfl
 try simp only [qp, qn]
 refine fun wq hw gt => hK.out _ _ ?_
 obtain ⟨⟨A1, rfl, hB, hF⟩, hb10⟩ := (gt 10 (hL.out 10 (by kernel_rfl))); have hx : Below w1.heap.size w1 wq := hb0.trans (hw.mono hb0.size); clear gt hO hA hL hK; refine wpAnyH_done (by kernel_rfl) ?_ _; go_wp2
 go_returns
 exact ⟨A1, rfl, hB.stays hb10, hF.more HBC.out.size, HBC.out.trans (hx.mono HBC.out.size)⟩
end Go.Proofs.YtiemnacoebkalaaGreat
