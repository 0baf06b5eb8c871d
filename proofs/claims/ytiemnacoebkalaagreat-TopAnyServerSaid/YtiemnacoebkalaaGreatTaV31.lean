import Derived.Maps.RangeWalk
import Derived.Test.YtiemnacoebkalaaGreatTaV18
import Derived.Test.YtiemnacoebkalaaGreatTaV30
set_option linter.all false
set_option maxRecDepth 100000
set_option maxHeartbeats 4000000
namespace Go.Proofs.YtiemnacoebkalaaGreat
open Go Go.RowKit
theorem or_crit : ∀ t < 8, bits .or .i64 ((t : Nat) : Int) 32768 = ((t + 32768 : Nat) : Int) := by decide +kernel
theorem rEncode_any (A : Option Addr) (n c : Nat) (rs : List RecT) (w : World) (hv : RecL w A n c rs) (ht : ∀ i, i < n -> ∃ t : Nat, recT rs i = (t : Int) ∧ t < 8) (hn : n <= 64) (htl : (rs.flatMap encR).length <= 65535) : Calls Tryz.prog 64 #[.slice A n c] w fun e w' => ∃ A' n' c', e = .returned (.tuple #[.slice A' n' c', .int .i64 0]) ∧ Bytes w' A' n' c' (rs.flatMap encR) ∧ Below w.heap.size w w' := by
 have hle := hv.le; have hcap := hv.cap; have HV := qq hv; have HL := qq hv.len; have HT := qq ht; have HTL := qq htl; clear hv ht htl
 go_enter Tryz.func64, Tryz.ntmps64
 go_wp2
 go_loopw [4, 10] (fun s i wr => ∃ (k mo co : Nat) (AO : Option Addr), k <= n ∧ i = .int .i64 k ∧ s = .slice AO mo co ∧ Hid (Bytes wr AO mo co ((rs.take k).flatMap encR)) ∧ Below w.heap.size w wr) (fun _ i _ => n - (intOf i).toNat)
 case atStart => exact ⟨0, 0, 0, none, Nat.zero_le _, rfl, rfl, Bytes.nil _ _ _ (Nat.zero_le _), Below.refl _ _⟩
 case round =>
  obtain ⟨k, mo, co, AO, hk, rfl, rfl, HO, hbr⟩ := hrel; have RW := qq hbr; have hmo : mo <= 65535 := by rw [<- HO.out.len]; exact Nat.le_trans (take_encR_le rs k) HTL.out
  by_cases hkn : k < n
  · have hki : (k : Int) < (n : Int) := by omega
    obtain ⟨bb, off, Ab, nb, cb, rfl, hc0, hc1, hc2, hy⟩ := (HV.out.stays hbr).at_ hkn; obtain ⟨t, et, ht8⟩ := HT.out k hkn; obtain ⟨cr, ecr⟩ : ∃ cr, recC rs k = cr := ⟨_, rfl⟩; obtain ⟨db, edb⟩ : ∃ db, recD rs k = db := ⟨_, rfl⟩; have HRE : Hid ((recC rs k, recT rs k, recD rs k) = (cr, (t : Int), db)) := by rw [Hid, ecr, et, edb]
    rw [et] at hc1; rw [ecr] at hc0; rw [edb] at hy; have hnb : nb <= 65535 := by
     have h1 := take_encR rs k (by rw [HL.out]; exact hkn); have h2 := take_encR_le rs (k + 1); rw [h1, List.length_append, encR_length, HRE.out] at h2; have h3 : db.length = nb := hy.len; have h4 := HTL.out; simp only at h2; omega
    obtain ⟨q, hq⟩ : ∃ q, off + k * 3 = q := ⟨_, rfl⟩; rw [hq] at hc0 hc1 hc2; have HY := qq hy; clear hbr et edb hy
    go_upto_region 5 with fail
    obtain ⟨y2, f_, ey2, ef_⟩ : ∃ y2 f_, y2 = wr.alloc (.cells #[.bool cr, .int .i64 t, .slice Ab nb cb] 132) ∧ f_ = wr.heap.size := ⟨_, _, rfl, rfl⟩; rw [<- ey2, <- ef_]; have hx : Below wr.heap.size wr y2 := by rw [ey2]; exact below_alloc1 _ _
    have BF := qq (show Blk y2 f_ 132 #[.bool cr, .int .i64 t, .slice Ab nb cb] by rw [ey2, ef_]; exact Blk.new _ _ _); have HDB := qs HY hx; have HO := qs HO hx; have RW := qt RW hx; clear hx ey2 ef_ hc0 hc1 hc2 HY hq; have t0 : ¬ (t : Int) < 0 := by omega
    have t1 : ¬ (t : Int) > 32767 := by omega
    have t2 : ¬ (32767 : Int) < (t : Int) := by omega
    rcases Bool.eq_false_or_eq_true cr with ecr | ecr
    · subst ecr; obtain ⟨kd, ekd⟩ : ∃ kd, t + 32768 = kd := ⟨_, rfl⟩; have HE : Hid (encR (true, (t : Int), db) = putL kd 2 ++ (putL nb 2 ++ db)) := by rw [<- ekd]; unfold Hid encR; rw [show db.length = nb from HDB.out.len]; simp
      have oI : bits .or .i64 (t : Int) 32768 = (kd : Int) := by rw [<- ekd]; exact or_crit t (by omega)
      have wK : IntKind.u64.wrap (kd : Int) = (kd : Int) := IntWalk.u64_in _ (by omega); have wN : IntKind.u64.wrap (nb : Int) = (nb : Int) := IntWalk.u64_in _ (by omega); have HTK : Hid ([(rs.take k).flatMap encR, putL kd 2, putL nb 2, db].flatten = (rs.take (k + 1)).flatMap encR) := by
       rw [Hid, take_encR rs k (by rw [HL.out]; exact hkn), HRE.out, HE.out]; simp
      obtain ⟨m2, em2⟩ : ∃ m2, ((rs.take (k + 1)).flatMap encR).length = m2 := ⟨_, rfl⟩; have HM2 : Hid ([(rs.take k).flatMap encR, putL kd 2, putL nb 2, db].flatten.length = m2) := by rw [Hid, HTK.out]; exact em2
      have hm2 : m2 <= 65535 := by rw [<- em2]; exact Nat.le_trans (take_encR_le rs (k + 1)) HTL.out
      have kc : y2.cell? ⟨f_, 0, none⟩ = some (.bool true) := BF.out.cell 0; have kc1 : y2.cell? ⟨f_, 1, none⟩ = some (.int .i64 t) := BF.out.cell 1; have kc2 : y2.cell? ⟨f_, 2, none⟩ = some (.slice Ab nb cb) := BF.out.cell 2; clear em2 ekd
      go_upto_region 13 with fail
      clear kc kc1 kc2 oI; refine mono_start (fun _ => True) [pv (.slice AO mo co), pv (.int .i64 kd), pv (.int .u64 kd), mv (fun v u => ∃ A' c', v = .slice A' 2 c' ∧ Bytes u A' 2 c' (putL kd 2)), pv (.pointer (some ⟨f_, 2, none⟩)), pv (.slice Ab nb cb), pv (.int .i64 nb), pv (.int .u64 nb), mv (fun v u => ∃ A' c', v = .slice A' 2 c' ∧ Bytes u A' 2 c' (putL nb 2)), pv (.pointer (some ⟨f_, 2, none⟩)), pv (.slice Ab nb cb), mv (fun v u => ∃ b', v = .slice (some ⟨b', 0, none⟩) 4 4 ∧ Lists u (some ⟨b', 0, none⟩) 4 4 [(rs.take k).flatMap encR, putL kd 2, putL nb 2, db]), mv (fun v u => ∃ A' c', v = .slice A' m2 c' ∧ Bytes u A' m2 c' ((rs.take (k + 1)).flatMap encR))] (by kernel_rfl) (by kernel_rfl) (fun OPS AV AL K w0 hO hA hL hK hb0 hz => ?_); refine step_pv (d := (some 37)) (hO.out 0 _ rfl) rfl rfl (fun wq hw => ?_) ?_
      · clear hO hA hL hK
        go_simp; try first | with_reducible rfl | assumption | decide
      try simp only [qp, qn]
      refine step_pv (d := (some 38)) (hO.out 1 _ rfl) rfl rfl (fun wq hw => ?_) ?_
      · clear hO hA hL hK
        go_simp; try first | with_reducible rfl | assumption | decide
      try simp only [qp, qn]
      refine step_pv (d := (some 39)) (hO.out 2 _ rfl) rfl rfl (fun wq hw => ?_) ?_
      · clear hO hA hL hK
        go_simp; try first | with_reducible rfl | assumption | decide
      try simp only [qp, qn]
      refine step_mc (d := (some 40)) (hO.out 3 _ rfl) rfl rfl (fun wq hw gt => ?_) (fun v_a3 x_a3 => ?_)
      · have hx : Below y2.heap.size y2 wq := hb0.trans (hw.mono hb0.size); refine ⟨_, _, ?_, (put_reads kd 2 (by decide) _).mono (fun e q h => ?_)⟩
        · clear gt hO hA hL hK
          go_simp
        obtain ⟨A', c', rfl, h1, h2⟩ := h; exact ⟨_, rfl, ⟨A', c', rfl, h1⟩, h2⟩
      try simp only [qp, qn]
      refine step_pv (d := (some 41)) (hO.out 4 _ rfl) rfl rfl (fun wq hw => ?_) ?_
      · clear hO hA hL hK
        go_simp; try first | with_reducible rfl | assumption | decide
      try simp only [qp, qn]
      refine step_pg (d := (some 42)) (hO.out 5 _ rfl) rfl rfl (fun wq hw gt => ?_) ?_
      · have hx : Below y2.heap.size y2 wq := hb0.trans (hw.mono hb0.size); have k1 := (BF.out.stays hx).cell 2; clear gt hO hA hL hK
        go_simp; try first | with_reducible rfl | assumption | decide
      try simp only [qp, qn]
      refine step_pv (d := (some 43)) (hO.out 6 _ rfl) rfl rfl (fun wq hw => ?_) ?_
      · clear hO hA hL hK
        go_simp; try first | with_reducible rfl | assumption | decide
      try simp only [qp, qn]
      refine step_pv (d := (some 44)) (hO.out 7 _ rfl) rfl rfl (fun wq hw => ?_) ?_
      · clear hO hA hL hK
        go_simp; try first | with_reducible rfl | assumption | decide
      try simp only [qp, qn]
      refine step_mc (d := (some 45)) (hO.out 8 _ rfl) rfl rfl (fun wq hw gt => ?_) (fun v_a8 x_a8 => ?_)
      · have hx : Below y2.heap.size y2 wq := hb0.trans (hw.mono hb0.size); refine ⟨_, _, ?_, (put_reads nb 2 (by decide) _).mono (fun e q h => ?_)⟩
        · clear gt hO hA hL hK
          go_simp
        obtain ⟨A', c', rfl, h1, h2⟩ := h; exact ⟨_, rfl, ⟨A', c', rfl, h1⟩, h2⟩
      try simp only [qp, qn]
      refine step_pv (d := (some 46)) (hO.out 9 _ rfl) rfl rfl (fun wq hw => ?_) ?_
      · clear hO hA hL hK
        go_simp; try first | with_reducible rfl | assumption | decide
      try simp only [qp, qn]
      refine step_pg (d := (some 47)) (hO.out 10 _ rfl) rfl rfl (fun wq hw gt => ?_) ?_
      · have hx : Below y2.heap.size y2 wq := hb0.trans (hw.mono hb0.size); have k1 := (BF.out.stays hx).cell 2; clear gt hO hA hL hK
        go_simp; try first | with_reducible rfl | assumption | decide
      try simp only [qp, qn]
      refine step_mv (d := (some 48)) (hO.out 11 _ rfl) rfl rfl (fun wq hw gt => ?_) (fun v_a11 x_a11 => ?_)
      · have hx : Below y2.heap.size y2 wq := hb0.trans (hw.mono hb0.size); obtain ⟨⟨B1, d1, rfl, k1⟩, kb1⟩ := (gt 3 (hA.out 11 3 (by kernel_rfl))); obtain ⟨⟨B2, d2, rfl, k2⟩, kb2⟩ := (gt 8 (hA.out 11 8 (by kernel_rfl))); refine ⟨_, _, ?_, ⟨_, rfl, lists_made4 (E := 27) (HO.out.stays hx) (k1.stays kb1) (k2.stays kb2) (HDB.out.stays hx)⟩, (Below.refl _ _).alloc (Nat.le_refl _) _⟩; clear gt hO hA hL hK
        go_simp; try first | with_reducible rfl | rfl
      try simp only [qp, qn]
      refine step_mc (d := (some 49)) (hO.out 12 _ rfl) rfl rfl (fun wq hw gt => ?_) (fun v_a12 x_a12 => ?_)
      · have hx : Below y2.heap.size y2 wq := hb0.trans (hw.mono hb0.size); obtain ⟨⟨b', rfl, hLs⟩, hbk⟩ := (gt 11 (hA.out 12 11 (by kernel_rfl))); refine ⟨_, _, ?_, (join_any _ _ _ [(rs.take k).flatMap encR, putL kd 2, putL nb 2, db] _ (hLs.stays hbk) m2 HM2.out (by omega)).mono (fun e q h => ?_)⟩
        · clear gt hO hA hL hK
          go_simp
        obtain ⟨A', c', rfl, h1, h2⟩ := h; have h3 := own_rd h1; rw [HTK.out] at h3; exact ⟨_, rfl, ⟨A', c', rfl, h3⟩, h2⟩
      try simp only [qp, qn]
      refine fun wq hw gt => hK.out _ _ ?_
      obtain ⟨⟨A', c', rfl, hR⟩, hbk⟩ := (gt 12 (hL.out 12 (by kernel_rfl))); have hx : Below y2.heap.size y2 wq := hb0.trans (hw.mono hb0.size); clear gt hO hA hL hK; refine take_do (j := 13) (d := (some 4)) (v := .slice A' m2 c') (w2 := wq) rfl rfl (by kernel_rfl) rfl (Or.inl (by go_simp; try with_reducible rfl)) trivial ?_; try simp only [qp, qn]
      refine wpAnyH_done (by kernel_rfl) ?_ _; have HR := qq (hR.stays hbk); have RW := qt RW hx; clear hR hbk hx hw hz hb0 BF HO HDB; go_wp2
      go_roundw
      case rel => exact ⟨k + 1, m2, c', A', by omega, by go_num, rfl, HR.out, RW.out⟩
      case measure => simp [intOf]; omega
    · subst ecr; obtain ⟨kd, ekd⟩ : ∃ kd, t = kd := ⟨_, rfl⟩; have HE : Hid (encR (false, (t : Int), db) = putL kd 2 ++ (putL nb 2 ++ db)) := by rw [<- ekd]; unfold Hid encR; rw [show db.length = nb from HDB.out.len]; simp
      have oI : (t : Int) = (kd : Int) := by rw [<- ekd]
      have wK : IntKind.u64.wrap (kd : Int) = (kd : Int) := IntWalk.u64_in _ (by omega); have wN : IntKind.u64.wrap (nb : Int) = (nb : Int) := IntWalk.u64_in _ (by omega); have HTK : Hid ([(rs.take k).flatMap encR, putL kd 2, putL nb 2, db].flatten = (rs.take (k + 1)).flatMap encR) := by
       rw [Hid, take_encR rs k (by rw [HL.out]; exact hkn), HRE.out, HE.out]; simp
      obtain ⟨m2, em2⟩ : ∃ m2, ((rs.take (k + 1)).flatMap encR).length = m2 := ⟨_, rfl⟩; have HM2 : Hid ([(rs.take k).flatMap encR, putL kd 2, putL nb 2, db].flatten.length = m2) := by rw [Hid, HTK.out]; exact em2
      have hm2 : m2 <= 65535 := by rw [<- em2]; exact Nat.le_trans (take_encR_le rs (k + 1)) HTL.out
      have kc : y2.cell? ⟨f_, 0, none⟩ = some (.bool false) := BF.out.cell 0; have kc1 : y2.cell? ⟨f_, 1, none⟩ = some (.int .i64 t) := BF.out.cell 1; have kc2 : y2.cell? ⟨f_, 2, none⟩ = some (.slice Ab nb cb) := BF.out.cell 2; clear em2 ekd; rw [oI] at kc1
      go_upto_region 13 with fail
      clear kc kc1 kc2 oI; refine mono_start (fun _ => True) [pv (.slice AO mo co), pv (.int .i64 kd), pv (.int .u64 kd), mv (fun v u => ∃ A' c', v = .slice A' 2 c' ∧ Bytes u A' 2 c' (putL kd 2)), pv (.pointer (some ⟨f_, 2, none⟩)), pv (.slice Ab nb cb), pv (.int .i64 nb), pv (.int .u64 nb), mv (fun v u => ∃ A' c', v = .slice A' 2 c' ∧ Bytes u A' 2 c' (putL nb 2)), pv (.pointer (some ⟨f_, 2, none⟩)), pv (.slice Ab nb cb), mv (fun v u => ∃ b', v = .slice (some ⟨b', 0, none⟩) 4 4 ∧ Lists u (some ⟨b', 0, none⟩) 4 4 [(rs.take k).flatMap encR, putL kd 2, putL nb 2, db]), mv (fun v u => ∃ A' c', v = .slice A' m2 c' ∧ Bytes u A' m2 c' ((rs.take (k + 1)).flatMap encR))] (by kernel_rfl) (by kernel_rfl) (fun OPS AV AL K w0 hO hA hL hK hb0 hz => ?_); refine step_pv (d := (some 37)) (hO.out 0 _ rfl) rfl rfl (fun wq hw => ?_) ?_
      · clear hO hA hL hK
        go_simp; try first | with_reducible rfl | assumption | decide
      try simp only [qp, qn]
      refine step_pv (d := (some 38)) (hO.out 1 _ rfl) rfl rfl (fun wq hw => ?_) ?_
      · clear hO hA hL hK
        go_simp; try first | with_reducible rfl | assumption | decide
      try simp only [qp, qn]
      refine step_pv (d := (some 39)) (hO.out 2 _ rfl) rfl rfl (fun wq hw => ?_) ?_
      · clear hO hA hL hK
        go_simp; try first | with_reducible rfl | assumption | decide
      try simp only [qp, qn]
      refine step_mc (d := (some 40)) (hO.out 3 _ rfl) rfl rfl (fun wq hw gt => ?_) (fun v_b3 x_b3 => ?_)
      · have hx : Below y2.heap.size y2 wq := hb0.trans (hw.mono hb0.size); refine ⟨_, _, ?_, (put_reads kd 2 (by decide) _).mono (fun e q h => ?_)⟩
        · clear gt hO hA hL hK
          go_simp
        obtain ⟨A', c', rfl, h1, h2⟩ := h; exact ⟨_, rfl, ⟨A', c', rfl, h1⟩, h2⟩
      try simp only [qp, qn]
      refine step_pv (d := (some 41)) (hO.out 4 _ rfl) rfl rfl (fun wq hw => ?_) ?_
      · clear hO hA hL hK
        go_simp; try first | with_reducible rfl | assumption | decide
      try simp only [qp, qn]
      refine step_pg (d := (some 42)) (hO.out 5 _ rfl) rfl rfl (fun wq hw gt => ?_) ?_
      · have hx : Below y2.heap.size y2 wq := hb0.trans (hw.mono hb0.size); have k1 := (BF.out.stays hx).cell 2; clear gt hO hA hL hK
        go_simp; try first | with_reducible rfl | assumption | decide
      try simp only [qp, qn]
      refine step_pv (d := (some 43)) (hO.out 6 _ rfl) rfl rfl (fun wq hw => ?_) ?_
      · clear hO hA hL hK
        go_simp; try first | with_reducible rfl | assumption | decide
      try simp only [qp, qn]
      refine step_pv (d := (some 44)) (hO.out 7 _ rfl) rfl rfl (fun wq hw => ?_) ?_
      · clear hO hA hL hK
        go_simp; try first | with_reducible rfl | assumption | decide
      try simp only [qp, qn]
      refine step_mc (d := (some 45)) (hO.out 8 _ rfl) rfl rfl (fun wq hw gt => ?_) (fun v_b8 x_b8 => ?_)
      · have hx : Below y2.heap.size y2 wq := hb0.trans (hw.mono hb0.size); refine ⟨_, _, ?_, (put_reads nb 2 (by decide) _).mono (fun e q h => ?_)⟩
        · clear gt hO hA hL hK
          go_simp
        obtain ⟨A', c', rfl, h1, h2⟩ := h; exact ⟨_, rfl, ⟨A', c', rfl, h1⟩, h2⟩
      try simp only [qp, qn]
      refine step_pv (d := (some 46)) (hO.out 9 _ rfl) rfl rfl (fun wq hw => ?_) ?_
      · clear hO hA hL hK
        go_simp; try first | with_reducible rfl | assumption | decide
      try simp only [qp, qn]
      refine step_pg (d := (some 47)) (hO.out 10 _ rfl) rfl rfl (fun wq hw gt => ?_) ?_
      · have hx : Below y2.heap.size y2 wq := hb0.trans (hw.mono hb0.size); have k1 := (BF.out.stays hx).cell 2; clear gt hO hA hL hK
        go_simp; try first | with_reducible rfl | assumption | decide
      try simp only [qp, qn]
      refine step_mv (d := (some 48)) (hO.out 11 _ rfl) rfl rfl (fun wq hw gt => ?_) (fun v_b11 x_b11 => ?_)
      · have hx : Below y2.heap.size y2 wq := hb0.trans (hw.mono hb0.size); obtain ⟨⟨B1, d1, rfl, k1⟩, kb1⟩ := (gt 3 (hA.out 11 3 (by kernel_rfl))); obtain ⟨⟨B2, d2, rfl, k2⟩, kb2⟩ := (gt 8 (hA.out 11 8 (by kernel_rfl))); refine ⟨_, _, ?_, ⟨_, rfl, lists_made4 (E := 27) (HO.out.stays hx) (k1.stays kb1) (k2.stays kb2) (HDB.out.stays hx)⟩, (Below.refl _ _).alloc (Nat.le_refl _) _⟩; clear gt hO hA hL hK
        go_simp; try first | with_reducible rfl | rfl
      try simp only [qp, qn]
      refine step_mc (d := (some 49)) (hO.out 12 _ rfl) rfl rfl (fun wq hw gt => ?_) (fun v_b12 x_b12 => ?_)
      · have hx : Below y2.heap.size y2 wq := hb0.trans (hw.mono hb0.size); obtain ⟨⟨b', rfl, hLs⟩, hbk⟩ := (gt 11 (hA.out 12 11 (by kernel_rfl))); refine ⟨_, _, ?_, (join_any _ _ _ [(rs.take k).flatMap encR, putL kd 2, putL nb 2, db] _ (hLs.stays hbk) m2 HM2.out (by omega)).mono (fun e q h => ?_)⟩
        · clear gt hO hA hL hK
          go_simp
        obtain ⟨A', c', rfl, h1, h2⟩ := h; have h3 := own_rd h1; rw [HTK.out] at h3; exact ⟨_, rfl, ⟨A', c', rfl, h3⟩, h2⟩
      try simp only [qp, qn]
      refine fun wq hw gt => hK.out _ _ ?_
      obtain ⟨⟨A', c', rfl, hR⟩, hbk⟩ := (gt 12 (hL.out 12 (by kernel_rfl))); have hx : Below y2.heap.size y2 wq := hb0.trans (hw.mono hb0.size); clear gt hO hA hL hK; refine take_do (j := 13) (d := (some 4)) (v := .slice A' m2 c') (w2 := wq) rfl rfl (by kernel_rfl) rfl (Or.inl (by go_simp; try with_reducible rfl)) trivial ?_; try simp only [qp, qn]
      refine wpAnyH_done (by kernel_rfl) ?_ _; have HR := qq (hR.stays hbk); have RW := qt RW hx; clear hR hbk hx hw hz hb0 BF HO HDB; go_wp2
      go_roundw
      case rel => exact ⟨k + 1, m2, c', A', by omega, by go_num, rfl, HR.out, RW.out⟩
      case measure => simp [intOf]; omega
  · have hk9 : k = n := by omega
    subst hk9; clear hkn; have h9 := HO.out; rw [List.take_of_length_le (by rw [HL.out]; exact Nat.le_refl _)] at h9; have H9 := qq h9; clear h9 HO; go_wp2
    go_returns
    exact ⟨AO, mo, co, rfl, H9.out, RW.out⟩
theorem and_crit : ∀ t < 8, bits .and .i64 ((t + 32768 : Nat) : Int) 32768 = 32768 := by decide +kernel
theorem and_not : ∀ t < 8, bits .and .i64 ((t : Nat) : Int) 32768 = 0 := by decide +kernel
theorem and_type : ∀ t < 8, bits .and .i64 ((t + 32768 : Nat) : Int) 32767 = (t : Int) := by decide +kernel
theorem and_type0 : ∀ t < 8, bits .and .i64 ((t : Nat) : Int) 32767 = (t : Int) := by decide +kernel
theorem infoRec3 : (Tryz.prog.info? 132).map (fun i => (i.zero, i.size, i.bytes)) = some (some (.agg #[.bool false, .int .i64 0, .slice none 0 0]), 3, 40) := by kernel_rfl
theorem rd_three (w : World) (a b d : Value) (e : TypeId) : Rd (w.alloc (.cells #[a, b, d] e)) 3 (some ⟨w.heap.size, 0, none⟩) 1 1 [a, b, d] := by
 refine ⟨rfl, Nat.le_refl _, by decide, fun i u hu => ⟨w.heap.size, 0, rfl, ?_⟩⟩; rw [Nat.zero_add, cell_of_row _ _ _ _ _ (0, 0) (heap_alloc_new _ _), <- hu]; simp
def fldR (r : RecT) : Int × List UInt8 := (((r.2.1.toNat + if r.1 then 32768 else 0 : Nat) : Int), r.2.2)
theorem flat_fldR (rs : List RecT) : (rs.map fldR).flatMap encF = rs.flatMap encR := by
 rw [List.flatMap_map]; first | done | rfl
theorem fldT_fldR (rs : List RecT) (k : Nat) (h : k < rs.length) : fldT (rs.map fldR) k = (((recT rs k).toNat + if recC rs k then 32768 else 0 : Nat) : Int) := by
 simp [fldT, fldR, recT, recC, List.getD, h]
theorem fldD_fldR (rs : List RecT) (k : Nat) (h : k < rs.length) : fldD (rs.map fldR) k = recD rs k := by
 simp [fldD, fldR, recD, List.getD, h]
theorem Off.old {w : World} {A : Option Addr} {n c : Nat} {l : List UInt8} {bad : Option Nat} (h : Bytes w A n c l) (hb : ∀ k, bad = some k -> w.heap.size <= k) : Off A n bad := fun a ha hn e => by
 obtain ⟨b, off, h2, h3⟩ := h.at_ hn; rw [ha] at h2; injection h2 with h2
 subst h2; have h4 := hb _ e; unfold World.cell? at h3; simp only at h3; rw [Array.getElem?_eq_none (by omega)] at h3; simp at h3
theorem OwnItems.old {α : Type} {sz : Nat} {enc : α -> Option Addr -> Nat -> Nat -> List Value} {dat : α -> List UInt8} {e : TypeId} {w : World} {B n c : Nat} {A : Option Addr} {xs : List α} (h : OwnItems sz enc dat e w B A n c xs) : ∀ k, (Value.slice A n c).ownBlock = some k -> B <= k := by
 obtain ⟨vs, h1, h2⟩ := h; exact fun k hk => (h1.lt k hk).1
theorem rDecode_any (A : Option Addr) (n c : Nat) (rs : List RecT) (w : World) (hv : Bytes w A n c (rs.flatMap encR)) (ht : ∀ i, i < rs.length -> ∃ t : Nat, recT rs i = (t : Int) ∧ t < 8) (hl : rs.length <= 64) (hn : n <= 65535) : Calls Tryz.prog 117 #[.slice A n c] w fun e w' => ∃ A' c', e = .returned (.tuple #[.slice A' rs.length c', .int .i64 0]) ∧ RecL w' A' rs.length c' rs ∧ Below w.heap.size w w' := by
 obtain ⟨i0, hi, hz0, hz1, hz2⟩ := info_parts infoRec3; have hle := hv.le; have hcap := hv.cap; have hfo : fldF n (rs.flatMap encR) = some (rs.map fldR) := by
  rw [<- flat_fldR]; refine fldF_write _ _ (fun f hf => ?_) (by rw [flat_fldR, hv.len]; exact Nat.le_refl _); obtain ⟨r, hr, rfl⟩ := List.mem_map.1 hf; obtain ⟨i, hi, rfl⟩ := List.mem_iff_getElem.1 hr; obtain ⟨t, e1, e2⟩ := ht i hi; rw [rec_eq rs i hi, e1]; refine ⟨by unfold fldR; simp only; omega, by unfold fldR; simp only; split <;> (rw [Int.toNat_natCast]; omega), ?_⟩; have h1 := take_encR rs i hi; have h2 := take_encR_le rs (i + 1); rw [h1, List.length_append, encR_length, hv.len] at h2; unfold fldR; simp only at h2 ⊢; omega
 have HV := qq hv; have HFO := qq hfo; have HT := qq ht; clear hv hfo ht; obtain ⟨m, hm⟩ : ∃ m, rs.length = m := ⟨_, rfl⟩; have HM := qq hm; rw [hm] at hl ⊢; clear hm
 go_enter Tryz.func117, Tryz.ntmps117
 go_wp2_with fail
 refine (fields_ok _ (rs.map fldR) _ _ _ _ HV.out hn HFO.out).mono ?_; rintro e wF ⟨AF, mF, cF, rfl, hFL, hbF⟩; obtain rfl : mF = m := by rw [<- HM.out, <- hFL.len]; simp
 have q1 := hFL.le; have q2 := hFL.cap; have HFL := qq hFL; have HBF := qq hbF; clear hFL hbF HFO HV; have hm6 : ¬ (mF : Int) > 64 := by omega
 have hm7 : ¬ (64 : Int) < (mF : Int) := by omega
 go_wp2
 go_loopw [6, 24] (fun s i wr => ∃ (k co : Nat) (AO : Option Addr), k <= mF ∧ i = .int .i64 k ∧ s = .slice AO k co ∧ Hid (OwnItems 3 encRec datRec 132 wr wF.heap.size AO k co (rs.take k)) ∧ Below wF.heap.size wF wr) (fun _ i _ => mF - (intOf i).toNat)
 case atStart => exact ⟨0, 0, none, Nat.zero_le _, rfl, rfl, OwnItems.nil _ _, Below.refl _ _⟩
 case round =>
  obtain ⟨k, co, AO, hk, rfl, rfl, HO, hbr⟩ := hrel; have RW := qq hbr
  by_cases hkn : k < mF
  · have hki : (k : Int) < (mF : Int) := by omega
    obtain ⟨bb, off, Ab, nb, cb, rfl, hc0, hc1, hy⟩ := (HFL.out.stays hbr).at_ hkn; obtain ⟨t, et, ht8⟩ := HT.out k (by rw [HM.out]; exact hkn); obtain ⟨cr, ecr⟩ : ∃ cr, recC rs k = cr := ⟨_, rfl⟩; obtain ⟨db, edb⟩ : ∃ db, recD rs k = db := ⟨_, rfl⟩; have HRE : Hid ((recC rs k, recT rs k, recD rs k) = (cr, (t : Int), db)) := by rw [Hid, ecr, et, edb]
    have eft := fldT_fldR rs k (by rw [HM.out]; exact hkn); rw [et, ecr, Int.toNat_natCast] at eft; have hy0 := hy; rw [fldD_fldR rs k (by rw [HM.out]; exact hkn), edb] at hy; obtain ⟨q, hq⟩ : ∃ q, off + k * 2 = q := ⟨_, rfl⟩; rw [hq] at hc0 hc1; have HOF : Hid (Off Ab nb (Value.slice AO k co).ownBlock) := by
     obtain ⟨b1, o1, A1, n1, c1, g1, _, g2, g3⟩ := HFL.out.at_ hkn; injection g1 with g1
     injection g1 with g1 g4
     subst g1; subst g4; have g5 := cell_stays hbr g2; rw [hq] at g5; rw [hc1] at g5; injection g5 with g5
     injection g5 with g5 g6 g7
     subst g5; subst g6; exact Off.old g3 HO.out.old
    have HY := qq hy; clear hbr et edb hy hy0; rcases Bool.eq_false_or_eq_true cr with ecr9 | ecr9
    · rw [ecr9] at HRE; obtain ⟨kd, ekd⟩ : ∃ kd, t + 32768 = kd := ⟨_, rfl⟩; have b1 : bits .and .i64 (kd : Int) 32768 = 32768 := by rw [<- ekd]; exact and_crit t ht8
      have b2 : bits .and .i64 (kd : Int) 32767 = (t : Int) := by rw [<- ekd]; exact and_type t ht8
      have hc9 : wr.cell? ⟨bb, q, none⟩ = some (.int .i64 (kd : Int)) := by rw [hc0, eft, ecr9, <- ekd]; simp
      clear hc0 ekd eft ecr9
      go_upto_region 10 with fail
      obtain ⟨y2, f_, ey2, ef_⟩ : ∃ y2 f_, y2 = wr.alloc (.cells #[.int .i64 (kd : Int), .slice Ab nb cb] 97) ∧ f_ = wr.heap.size := ⟨_, _, rfl, rfl⟩; rw [<- ey2, <- ef_]; have hx : Below wr.heap.size wr y2 := by rw [ey2]; exact below_alloc1 _ _
      have BF := qq (show Blk y2 f_ 97 #[.int .i64 (kd : Int), .slice Ab nb cb] by rw [ey2, ef_]; exact Blk.new _ _ _); have HY := qs HY hx; have HO := qs HO hx; have RW := qt RW hx; clear hx ey2 ef_ hc9 hc1 hq; have kc0 : y2.cell? ⟨f_, 0, none⟩ = some (.int .i64 (kd : Int)) := BF.out.cell 0; have kc1 : y2.cell? ⟨f_, 1, none⟩ = some (.slice Ab nb cb) := BF.out.cell 1; have hk9 := HO.out.cap
      go_wp2_with (at_builtin; refine wpList_append_items rfl _ _ 133 rfl i0 _ 40 Tryz.underlying133 hi hz0 hz1 hz2 rfl (by decide) rfl (HO.out.stays ((Below.refl _ _).alloc (Nat.le_refl _) _)) rfl ((true, (t : Int), db) : RecT) rfl (rd_three _ _ _ _ _) (by simp [encRec, Value.oneCell']) (HY.out.stays ((Below.refl _ _).alloc (Nat.le_refl _) _)) HOF.out (by unfold maxLen; omega) (by omega) (by have := RW.out.size; simp; omega) ?_; intro A8 c8 w8 hown8 hg8 hb8; have HG8 := qq hb8; have HO8 := qq hown8; clear hg8 hb8 hown8)
      have RX := (RW.out.alloc RW.out.size _).trans HG8.out; have O8 : Hid (OwnItems 3 encRec datRec 132 w8 wF.heap.size A8 (k + 1) c8 (rs.take (k + 1))) := by
       rw [Hid, take_rec rs k (by rw [HM.out]; exact hkn), HRE.out]; exact HO8.out
      clear HO8 HG8; go_wp2
      go_roundw
      case rel => exact ⟨k + 1, c8, A8, by omega, by go_num, rfl, O8, RX⟩
      case measure => simp [intOf]; omega
    · rw [ecr9] at HRE; obtain ⟨kd, ekd⟩ : ∃ kd, t = kd := ⟨_, rfl⟩; have b1 : bits .and .i64 (kd : Int) 32768 = 0 := by rw [<- ekd]; exact and_not t ht8
      have b2 : bits .and .i64 (kd : Int) 32767 = (t : Int) := by rw [<- ekd]; exact and_type0 t ht8
      have hc9 : wr.cell? ⟨bb, q, none⟩ = some (.int .i64 (kd : Int)) := by rw [hc0, eft, ecr9, <- ekd]; simp
      clear hc0 ekd eft ecr9
      go_upto_region 10 with fail
      obtain ⟨y2, f_, ey2, ef_⟩ : ∃ y2 f_, y2 = wr.alloc (.cells #[.int .i64 (kd : Int), .slice Ab nb cb] 97) ∧ f_ = wr.heap.size := ⟨_, _, rfl, rfl⟩; rw [<- ey2, <- ef_]; have hx : Below wr.heap.size wr y2 := by rw [ey2]; exact below_alloc1 _ _
      have BF := qq (show Blk y2 f_ 97 #[.int .i64 (kd : Int), .slice Ab nb cb] by rw [ey2, ef_]; exact Blk.new _ _ _); have HY := qs HY hx; have HO := qs HO hx; have RW := qt RW hx; clear hx ey2 ef_ hc9 hc1 hq; have kc0 : y2.cell? ⟨f_, 0, none⟩ = some (.int .i64 (kd : Int)) := BF.out.cell 0; have kc1 : y2.cell? ⟨f_, 1, none⟩ = some (.slice Ab nb cb) := BF.out.cell 1; have hk9 := HO.out.cap
      go_wp2_with (at_builtin; refine wpList_append_items rfl _ _ 133 rfl i0 _ 40 Tryz.underlying133 hi hz0 hz1 hz2 rfl (by decide) rfl (HO.out.stays ((Below.refl _ _).alloc (Nat.le_refl _) _)) rfl ((false, (t : Int), db) : RecT) rfl (rd_three _ _ _ _ _) (by simp [encRec, Value.oneCell']) (HY.out.stays ((Below.refl _ _).alloc (Nat.le_refl _) _)) HOF.out (by unfold maxLen; omega) (by omega) (by have := RW.out.size; simp; omega) ?_; intro A8 c8 w8 hown8 hg8 hb8; have HG8 := qq hb8; have HO8 := qq hown8; clear hg8 hb8 hown8)
      have RX := (RW.out.alloc RW.out.size _).trans HG8.out; have O8 : Hid (OwnItems 3 encRec datRec 132 w8 wF.heap.size A8 (k + 1) c8 (rs.take (k + 1))) := by
       rw [Hid, take_rec rs k (by rw [HM.out]; exact hkn), HRE.out]; exact HO8.out
      clear HO8 HG8; go_wp2
      go_roundw
      case rel => exact ⟨k + 1, c8, A8, by omega, by go_num, rfl, O8, RX⟩
      case measure => simp [intOf]; omega
  · have hk9 : k = mF := by omega
    subst hk9; clear hkn; have h9 := HO.out; rw [List.take_of_length_le (by rw [HM.out]; exact Nat.le_refl _)] at h9; have H9 := qq h9.recL; clear h9 HO; go_wp2
    go_returns
    exact ⟨AO, co, rfl, H9.out, HBF.out.trans (RW.out.mono HBF.out.size)⟩
def rawR (v : Value) : Option (DataW Value × List MemPlace) := some (.held v, [])
abbrev KZ : Value := .slice none 0 0
def MapV (w : World) (b n : Nat) (V : Int -> Value) : Prop := ∃ D, w.ownsMap Tryz.prog 3 rawR b n D ∧ Maps.IsMap D ∧ ∀ k, D.atKey (.int .i64 k) (.held KZ) = .held (V k)
theorem rawR_inv {v : Value} {d : DataW Value} {ps : List MemPlace} (h : rawR v = some (d, ps)) : d = .held v := by unfold rawR at h; simp at h; exact h.1.symm
section
variable {w w' : World} {b n : Nat} {V : Int -> Value}
theorem MapV.kept {row : Option Nat} (h : MapV w b n V) (hg : w.grownBy w' row) (hne : some b ≠ row) : MapV w' b n V := by
 obtain ⟨D, h1, h2, h3⟩ := h; exact ⟨D, h1.kept hg hne, h2, h3⟩
theorem MapV.stays (h : MapV w b n V) (hb : Below w.heap.size w w') : MapV w' b n V := h.kept (grown_of_below hb none) (by simp)
instance : QStay (MapV w b n V) w w' (MapV w' b n V) := ⟨fun h hb => MapV.stays h hb⟩
theorem MapV.made (w : World) : MapV (w.alloc (.map #[] 0)) w.heap.size 0 (fun _ => KZ) := ⟨.map [], World.ownsMap_made _ _ _ _, ⟨[], rfl⟩, fun k => WideAt.atKey_none _ (fun p hp => by cases hp)⟩
theorem key_i64 {k : Int} (h0 : 0 <= k) (h1 : k <= 4294967295) : keyOf Tryz.prog 3 (.int .i64 k) = some (.int .i64 k) := Maps.keyOf_int_mk Tryz.underlying3 (i64_wf h0 h1)
theorem zeroRecs (w : World) : (zeroValue 133).run Tryz.prog w = .ok KZ w := by first | exact Tryz.zeroValue133 _ | rfl
theorem MapV.look (h : MapV w b n V) {k : Int} (h0 : 0 <= k) (h1 : k <= 4294967295) : (Instr.lookup 140 (.map (some b)) (.int .i64 k) false).run Tryz.prog w = .ok (V k) w := by
 obtain ⟨D, hD, _, h3⟩ := h; obtain ⟨v, ps, hr, hv⟩ := hD.lookup (Maps.int_keyed Tryz.underlying3) Tryz.underlying140 (z := KZ) (zeroRecs w) (zd := .held KZ) (zp := []) rfl (key_i64 h0 h1); have e1 := rawR_inv hv; rw [h3 k] at e1; injection e1 with e1
 rw [hr, e1]
theorem MapV.update (h : MapV w b n V) (hn : n < maxLen) {k : Int} (h0 : 0 <= k) (h1 : k <= 4294967295) (v : Value) : ∃ w', (Instr.mapUpdate 140 (.map (some b)) (.int .i64 k) v).run Tryz.prog w = .ok () w' ∧ MapV w' b (n + 1) (fun j => if j = k then v else V j) ∧ w.grownBy w' (some b) := by
 obtain ⟨D, hD, hm, h3⟩ := h; obtain ⟨w', hr, h4, h5⟩ := hD.update (Maps.int_keyed Tryz.underlying3) Tryz.underlying140 hn (key_i64 h0 h1) (val := v) (d := .held v) (ps := []) rfl; refine ⟨w', hr, ⟨_, h4, hm.put _ _, fun j => ?_⟩, h5⟩
 show _ = DataW.held (if j = k then v else V j)
 by_cases hj : j = k
 · subst hj; rw [if_pos rfl]; exact Maps.atKey_put_same hm ((Maps.int_keyed Tryz.underlying3).key (key_i64 h0 h1)) _ _
 · rw [if_neg hj, Maps.atKey_put_other (fun e => hj (by injection e))]; exact h3 j
end
def kindL (rs : List RecT) (k : Int) : List RecT := rs.filter fun r => decide (r.2.1 = k)
theorem kindL_snoc (rs : List RecT) (r : RecT) (k : Int) : kindL (rs ++ [r]) k = if r.2.1 = k then kindL rs k ++ [r] else kindL rs k := by
 unfold kindL; rw [List.filter_append]
 by_cases h : r.2.1 = k <;> simp [h]
def KRow (w0 w : World) (B : Nat) (v : Value) (rs : List RecT) : Prop := ∃ A n c vs, v = .slice A n c ∧ w.ownsRow B 132 3 (.slice A n c) n vs ∧ ItemsV 3 encRec datRec w0 none vs rs
theorem ItemsV.oneR {w : World} {bad : Option Nat} {vs : List Value} {rs : List RecT} (h : ItemsV 3 encRec datRec w bad vs rs) : ∀ u ∈ vs, u.oneCell' = true := by
 intro u hu; obtain ⟨j, hj, rfl⟩ := List.mem_iff_getElem.1 hu; have hl := h.1; obtain ⟨A', n', c', e1, _⟩ := h.2 (j / 3) _ (List.getElem?_eq_getElem (show j / 3 < rs.length by omega)); have h3 := e1 (j % 3) (by omega); rw [show j / 3 * 3 + j % 3 = j by omega, List.getElem?_eq_getElem hj] at h3; have h4 : j % 3 = 0 ∨ j % 3 = 1 ∨ j % 3 = 2 := by omega
 rcases h4 with h4 | h4 | h4 <;> (rw [h4] at h3; simp only [encRec, List.getElem?_cons_zero, List.getElem?_cons_succ, Option.some.injEq] at h3; rw [h3]; rfl)
theorem KRow.recL {w0 w : World} {B : Nat} {v : Value} {rs : List RecT} (h : KRow w0 w B v rs) (hb : Below w0.heap.size w0 w) : ∃ A c, v = .slice A rs.length c ∧ RecL w A rs.length c rs := by
 obtain ⟨A, n, c, vs, rfl, h1, h2⟩ := h; have h3 := own_rd h1; have h4 := h3.1; have h5 := h2.1; obtain rfl : n = rs.length := by omega
 exact ⟨A, c, rfl, vs, h3, h2.stays hb⟩
theorem KRow.kept {w0 w w' : World} {B : Nat} {v : Value} {rs : List RecT} {row : Option Nat} (h : KRow w0 w B v rs) (hg : w.grownBy w' row) (hne : v.ownBlock = none ∨ v.ownBlock ≠ row) : KRow w0 w' B v rs := by
 obtain ⟨A, n, c, vs, rfl, h1, h2⟩ := h; exact ⟨A, n, c, vs, rfl, h1.kept hg hne, h2⟩
def GrpV (w0 w : World) (b n : Nat) (rs : List RecT) : Prop := w0.heap.size <= b ∧ Below w0.heap.size w0 w ∧ ∃ V, MapV w b n V ∧ (∀ k, KRow w0 w (b + 1) (V k) (kindL rs k)) ∧ ∀ j k, j ≠ k -> (V j).ownBlock = none ∨ (V j).ownBlock ≠ (V k).ownBlock
theorem KRow.nil (w0 w : World) (B : Nat) : KRow w0 w B KZ [] := ⟨none, 0, 0, [], rfl, own_nil _ _ _ _, ItemsV.nil _ _⟩
theorem KRow.blk {w0 w : World} {B : Nat} {v : Value} {rs : List RecT} (h : KRow w0 w B v rs) : ∀ g, v.ownBlock = some g -> B <= g ∧ g < w.heap.size := by
 obtain ⟨A, n, c, vs, rfl, h1, h2⟩ := h; exact fun g hg => h1.lt g hg
theorem GrpV.made {w0 w : World} (hb : Below w0.heap.size w0 w) : GrpV w0 (w.alloc (.map #[] 0)) w.heap.size 0 [] :=
 ⟨hb.size, hb.alloc hb.size _, fun _ => KZ, MapV.made w, fun k => KRow.nil _ _ _, fun j k _ => .inl rfl⟩
theorem GrpV.stays {w0 w w' : World} {b n : Nat} {rs : List RecT} (h : GrpV w0 w b n rs) (hb : Below w.heap.size w w') : GrpV w0 w' b n rs := by
 obtain ⟨h1, h2, V, h3, h4, h5⟩ := h; exact ⟨h1, h2.trans (hb.mono h2.size), V, h3.stays hb, fun k => (h4 k).kept (grown_of_below hb none) (by cases (V k).ownBlock <;> simp), h5⟩
instance {w0 w w' : World} {b n : Nat} {rs : List RecT} : QStay (GrpV w0 w b n rs) w w' (GrpV w0 w' b n rs) := ⟨fun h hb => GrpV.stays h hb⟩
theorem GrpV.look {w0 w : World} {b n : Nat} {rs : List RecT} (h : GrpV w0 w b n rs) (hn : n < maxLen) (cr : Bool) (t : Int) (db : List UInt8) (h0 : 0 <= t) (h1 : t <= 4294967295) {Ab : Option Addr} {nb cb : Nat} (hy : Bytes w0 Ab nb cb db) :
    ∃ A m c vs, m = (kindL rs t).length ∧ ∀ wq, Below w.heap.size w wq -> (Instr.lookup 140 (.map (some b)) (.int .i64 t) false).run Tryz.prog wq = .ok (.slice A m c) wq ∧ wq.ownsRow (b + 1) 132 3 (.slice A m c) m vs ∧
     ∀ (w1 : World) (v' : Value), wq.grownBy w1 (Value.slice A m c).ownBlock -> w1.ownsRow (b + 1) 132 3 v' (m + 1) (vs ++ encRec (cr, t, db) Ab nb cb) -> (v'.ownBlock = (Value.slice A m c).ownBlock ∨ v'.ownBlock = some wq.heap.size) ->
      ∃ w2, (Instr.mapUpdate 140 (.map (some b)) (.int .i64 t) v').run Tryz.prog w1 = .ok () w2 ∧ GrpV w0 w2 b (n + 1) (rs ++ [(cr, t, db)]) ∧ w1.grownBy w2 (some b) := by
 obtain ⟨hb0, hbwA, V, hVA, hRA, hne⟩ := h; obtain ⟨A, m, c, vs, eV, hownA, hit⟩ := hRA t; refine ⟨A, m, c, vs, by have := (own_rd hownA).1; have := hit.1; omega, fun wq hwq => ?_⟩; have hV := hVA.stays hwq; have hbw := hbwA.trans (hwq.mono hbwA.size); have hR : ∀ k, KRow w0 wq (b + 1) (V k) (kindL rs k) := fun k => (hRA k).kept (grown_of_below hwq none) (by cases (V k).ownBlock <;> simp)
 have hown := own_below hownA hwq; have hl := hV.look h0 h1; rw [eV] at hl; refine ⟨hl, hown, fun w1 v' hg hown' hloc => ?_⟩; have hbt : some b ≠ (Value.slice A m c).ownBlock := fun e => by
  have := (hown.lt b e.symm).1; omega
 obtain ⟨w2, hrun, hV2, hg2⟩ := (hV.kept hg hbt).update hn h0 h1 v'; have hBw1 : Below w0.heap.size w0 w1 := hbw.grown hg hbw.size (fun k hk => by have := (hown.lt k hk).1; omega); have hBw2 : Below w0.heap.size w0 w2 := hBw1.grown hg2 hBw1.size (fun k hk => by cases hk; exact hb0); have hv' : ∃ A' n' c', v' = .slice A' n' c' ∧ n' = m + 1 := by
  rcases hown'.2 with ⟨_, e⟩ | ⟨g, cap, cur, e, _⟩
  · omega
  · exact ⟨_, _, _, e, rfl⟩
 obtain ⟨A', n', c', rfl, rfl⟩ := hv'; have hit2 : ItemsV 3 encRec datRec w0 none (vs ++ encRec (cr, t, db) Ab nb cb) (kindL rs t ++ [(cr, t, db)]) := hit.snoc (cr, t, db) Ab nb cb rfl hy Off.none; have hold : ∀ j, j ≠ t -> (V j).ownBlock = none ∨ (V j).ownBlock ≠ (Value.slice A' (m + 1) c').ownBlock := by
  intro j hj; rcases hloc with e | e
  · rw [e, <- eV]; exact hne j t hj
  · cases hx : (V j).ownBlock with
    | none => exact .inl rfl
    | some gx =>
     have := ((hR j).blk gx hx).2; refine .inr (fun e9 => ?_); rw [e] at e9
     cases e9
     omega
 have hnb : (Value.slice A' (m + 1) c').ownBlock ≠ some b := fun e => by
  have := (hown'.lt b e).1; omega
 refine ⟨w2, hrun, ⟨hb0, hBw2, _, hV2, fun k => ?_, fun j k hjk => ?_⟩, hg2⟩
 · rw [kindL_snoc]
   by_cases hk : k = t
   · subst hk; simp only [if_true]; exact ⟨A', m + 1, c', _, rfl, hown'.kept hg2 (.inr hnb), hit2⟩
   · simp only [if_neg hk, if_neg (fun e : t = k => hk e.symm)]; refine ((hR k).kept hg ?_).kept hg2 ?_
     · rw [<- eV]; exact hne k t hk
     · cases hx : (V k).ownBlock with
       | none => exact .inl rfl
       | some gx =>
        have := ((hR k).blk gx hx).1; exact .inr (fun e => by cases e; omega)
 · by_cases hj : j = t
   · subst hj; rw [if_pos rfl, if_neg (fun e : k = j => hjk e.symm)]; rcases hold k (fun e => hjk e.symm) with h9 | h9
     · by_cases h8 : (Value.slice A' (m + 1) c').ownBlock = none
       · exact .inl h8
       · rw [h9]; exact .inr h8
     · exact .inr (fun e => h9 e.symm)
   · rw [if_neg hj]
     by_cases hk : k = t
     · subst hk; rw [if_pos rfl]; exact hold j hj
     · rw [if_neg hk]; exact hne j k hjk
def MsgV (w : World) (v : Value) (rs : List RecT) : Prop := ∃ A c b n V, v = .agg #[.slice A rs.length c, .map (some b)] ∧ RecL w A rs.length c rs ∧ MapV w b n V ∧ ∀ k, ∃ A' c', V k = .slice A' (kindL rs k).length c' ∧ RecL w A' (kindL rs k).length c' (kindL rs k)
theorem MsgV.stays {w w' : World} {v : Value} {rs : List RecT} (h : MsgV w v rs) (hb : Below w.heap.size w w') : MsgV w' v rs := by
 obtain ⟨A, c, b, n, V, h1, h2, h3, h4⟩ := h; refine ⟨A, c, b, n, V, h1, h2.stays hb, h3.stays hb, fun k => ?_⟩; obtain ⟨A', c', h5, h6⟩ := h4 k; exact ⟨A', c', h5, h6.stays hb⟩
instance {w w' : World} {v : Value} {rs : List RecT} : QStay (MsgV w v rs) w w' (MsgV w' v rs) := ⟨fun h hb => MsgV.stays h hb⟩
theorem GrpV.done {w0 w : World} {b n : Nat} {rs : List RecT} (h : GrpV w0 w b n rs) : ∃ V, MapV w b n V ∧ ∀ k, ∃ A' c', V k = .slice A' (kindL rs k).length c' ∧ RecL w A' (kindL rs k).length c' (kindL rs k) := by
 obtain ⟨h1, h2, V, h3, h4, _⟩ := h; exact ⟨V, h3, fun k => (h4 k).recL h2⟩
theorem exec_mapUpdate {P : Program} {o : Oper} {a : Act} {w w' : World} {t : TypeId} {m x v : Operand} {v1 v2 v3 : Value} (ho : o.op = .mapUpdate t m x v) (h1 : a.eval m = v1) (h2 : a.eval x = v2) (h3 : a.eval v = v3) (hrun : (Instr.mapUpdate t v1 v2 v3).run P w = .ok () w') : (execOp a.eval o).run P w = .ok .skip w' := by
 simp [execOp, ho, h1, h2, h3, hrun, Result.andThen]
theorem invK {key : Value} {kl : Lit} (h : keyOf Tryz.prog 3 key = some kl) : ∃ x, key = Value.int .i64 x := by
 obtain ⟨x, e, _⟩ := Maps.keyOf_int_inv Tryz.underlying3 h; exact ⟨x, e⟩
theorem invV {v : Value} {y : DataW Value × List MemPlace} (_h : rawR v = some y) : ∃ u : Value, v = id u := ⟨v, rfl⟩
def RowsV (sz : Nat) (w : World) (A : Option Addr) (n c : Nat) (vss : List (List Value)) : Prop :=
 ∃ hs, Rd w 1 A n c hs ∧ vss.length = n ∧ ∀ (i : Nat) (vs : List Value), vss[i]? = some vs -> ∃ A' n' c', hs[i]? = some (.slice A' n' c') ∧ Rd w sz A' n' c' vs ∧ ∀ u ∈ vs, u.oneCell' = true
section
variable {sz : Nat} {w w' : World} {A : Option Addr} {n c : Nat} {vss : List (List Value)}
theorem RowsV.stays (h : RowsV sz w A n c vss) (hb : Below w.heap.size w w') : RowsV sz w' A n c vss := by
 obtain ⟨hs, h1, h2, h3⟩ := h; refine ⟨hs, h1.stays hb, h2, fun i vs hi => ?_⟩; obtain ⟨A', n', c', h4, h5, h6⟩ := h3 i vs hi; exact ⟨A', n', c', h4, h5.stays hb, h6⟩
instance : QStay (RowsV sz w A n c vss) w w' (RowsV sz w' A n c vss) := ⟨fun h hb => RowsV.stays h hb⟩
theorem RowsV.len (h : RowsV sz w A n c vss) : vss.length = n := by obtain ⟨_, _, h2, _⟩ := h; exact h2
theorem RowsV.le (h : RowsV sz w A n c vss) : n <= c := by obtain ⟨_, h1, _⟩ := h; exact h1.2.1
theorem RowsV.cap (h : RowsV sz w A n c vss) : c <= 9223372036854775807 := by
 obtain ⟨_, h1, _⟩ := h; have := h1.2.2.1; unfold maxLen at this; omega
theorem RowsV.at_ (h : RowsV sz w A n c vss) {i : Nat} (hi : i < n) : ∃ b off A' n' c', A = some ⟨b, off, none⟩ ∧ w.cell? ⟨b, off + i, none⟩ = some (.slice A' n' c') ∧ Rd w sz A' n' c' (vss.getD i []) ∧ ∀ u ∈ vss.getD i [], u.oneCell' = true := by
 obtain ⟨hs, h1, h2, h3⟩ := h; have hl : i < vss.length := by omega
 obtain ⟨A', n', c', h4, h5, h6⟩ := h3 i (vss[i]) (List.getElem?_eq_getElem hl); obtain ⟨b, off, e1, e2⟩ := h1.2.2.2 i _ h4; have e3 : vss.getD i [] = vss[i] := by simp [List.getD, hl]
 rw [e3]; exact ⟨b, off, A', n', c', e1, e2, h5, h6⟩
theorem takeV_flatten (vss : List (List Value)) (k : Nat) (h : k < vss.length) : (vss.take (k + 1)).flatten = (vss.take k).flatten ++ vss.getD k [] := by
 rw [List.take_succ_eq_append_getElem h, List.flatten_append]; simp [List.getD, h]
theorem flattenV_take_le (vss : List (List Value)) (j : Nat) : (vss.take j).flatten.length <= vss.flatten.length := by
 have e : vss.flatten.length = (vss.take j).flatten.length + (vss.drop j).flatten.length := by
  rw [<- List.length_append, <- List.flatten_append, List.take_append_drop]
 omega
theorem RowsV.made {g T : Nat} {vs : List Value} (hB : Blk w g T vs.toArray) (hl : vs.length = vss.length) (hm : vs.length <= maxLen) (h : ∀ (i : Nat) (ws : List Value), vss[i]? = some ws -> ∃ A' n' c', vs[i]? = some (.slice A' n' c') ∧ Rd w sz A' n' c' ws ∧ ∀ u ∈ ws, u.oneCell' = true) : RowsV sz w (some ⟨g, 0, none⟩) vs.length vs.length vss := by
 refine ⟨vs, ⟨by omega, Nat.le_refl _, hm, fun i u hu => ⟨g, 0, rfl, ?_⟩⟩, hl.symm, h⟩; rw [hB.cell, Nat.zero_add]
 simpa using hu
end
theorem infoRC : (Tryz.prog.info? 132).map (fun i => (i.zero, i.size, i.bytes)) = some (some (.agg #[.bool false, .int .i64 0, .slice none 0 0]), 3, 40) := by kernel_rfl
theorem growR_nil (k : Nat) (hk : k <= 100000) (w : World) :
    Calls Tryz.prog 144 #[.slice none 0 0, .int .i64 k] w fun e w' => ∃ A c, e = .returned (.slice A 0 c) ∧ w'.ownsRow w.heap.size 132 3 (.slice A 0 c) 0 [] ∧ Below w.heap.size w w' := by
 by_cases h0 : k = 0
 · subst h0
   go_enter Tryz.func144, Tryz.ntmps144
   go_wp2; go_ret; exact ⟨none, 0, rfl, own_nil _ _ _ _, Below.refl _ _⟩
 · obtain ⟨i0, hi, hz0, hz1, hz2⟩ := info_parts infoRC; have hr := Lib.run_append_nil_zeros (P := Tryz.prog) w 133 3 133 132 i0 (.agg #[.bool false, .int .i64 0, .slice none 0 0]) .i64 .i64 Tryz.underlying133 Tryz.underlying3 hi hz0 k (by omega) (by omega) (by omega) (by rw [hz2]; omega); have HR := qq hr; have hpos : 0 < k := by omega
   have h0' : (k == 0) = false := by simpa using h0
   clear hr h0
   go_enter Tryz.func144, Tryz.ntmps144
   go_wp2_with (at_builtin; refine Lib.wpList_append_run w rfl _ _ _ _ rfl _ _ rfl rfl _ _ HR.out ?_)
   go_ret; have hge := grownCap_ge w k 0 132; have hle := grownCap_le_maxLen w k 0 132 (by unfold maxLen; omega); refine ⟨_, _, rfl, World.ownsRow_made w.drew _ _ (Nat.le_refl _) hle ?_, ((Below.refl _ _).drew).alloc (Nat.le_refl _) _⟩; simp only [Array.size_append, size_zeroCells, Value.cells]; simp; omega

theorem catR_any (A : Option Addr) (n c : Nat) (vss : List (List Value)) (w : World) (hv : RowsV 3 w A n c vss) (T : Nat) (hT : vss.flatten.length = T * 3) (ht : T <= 100000) :
    Calls Tryz.prog 119 #[.slice A n c] w fun e w' => ∃ A' c', e = .returned (.slice A' T c') ∧
      w'.ownsRow w.heap.size 132 3 (.slice A' T c') T vss.flatten ∧ Below w.heap.size w w' := by
 obtain ⟨i0, hi, hz0, hz1, hz2⟩ := info_parts infoRC; have hcap := hv.cap; have hle := hv.le; have HL := qq hv.len; have HV := qq hv; have HT := qq hT; have hsum : ∀ j, (vss.take j).flatten.length <= T * 3 := fun j => by rw [<- hT]; exact flattenV_take_le vss j
 have HS := qq hsum; clear hv hsum hT
 go_enter Tryz.func119, Tryz.ntmps119
 go_wp2
 go_loop [3, 11] (fun s i => ∃ j t : Nat, j <= n ∧ i = .int .i64 j ∧ s = .int .i64 t ∧ t <= T ∧ Hid (t * 3 = (vss.take j).flatten.length)) (fun _ i => n - (intOf i).toNat)
 case atStart => exact ⟨0, 0, Nat.zero_le _, rfl, rfl, Nat.zero_le _, by simp [Hid]⟩
 case round =>
  obtain ⟨j, t, hj, rfl, rfl, htT, hte⟩ := hrel
  by_cases hjk : j < n
  · obtain ⟨b, off, A', n', c', rfl, hc, hy, h1⟩ := HV.out.at_ hjk; have hn' : t + n' <= T := by
     have := HS.out (j + 1); rw [takeV_flatten vss j (by rw [HL.out]; exact hjk), List.length_append, hy.1, <- hte.out] at this; omega
    have HE : Hid ((t + n') * 3 = (vss.take (j + 1)).flatten.length) := by
     unfold Hid; rw [takeV_flatten vss j (by rw [HL.out]; exact hjk), List.length_append, hy.1, <- hte.out, Nat.add_mul]
    clear hy h1; go_wp2
    go_round
    case rel => exact ⟨j + 1, t + n', by omega, by go_num, by go_num, hn', HE⟩
    case measure => simp [intOf]; omega
  · obtain rfl : j = n := by omega
    have HE : Hid (t = T) := by
     have h8 := hte.out; rw [List.take_of_length_le (by rw [HL.out]; exact Nat.le_refl _), HT.out] at h8; exact Nat.eq_of_mul_eq_mul_right (by decide) h8
    go_wp2_with fail
    refine (growR_nil t (by omega) _).mono ?_; rintro e w1 ⟨A6, c6, rfl, hown, hb1⟩
    go_wp2_with fail
    go_loopw [6, 27] (fun s i wr => ∃ (k m cc : Nat) (AA : Option Addr), k <= j ∧ i = .int .i64 k ∧ s = .slice AA m cc ∧ Hid (m * 3 = (vss.take k).flatten.length) ∧
        wr.ownsRow w.heap.size 132 3 (.slice AA m cc) m (vss.take k).flatten ∧ Below w.heap.size w wr) (fun _ i _ => j - (intOf i).toNat)
    case atStart => exact ⟨0, 0, _, _, Nat.zero_le _, rfl, rfl, by simp [Hid], hown, hb1⟩
    case round =>
     obtain ⟨k, m, cc, AA, hk, rfl, rfl, hm, hownr, hbr⟩ := hrel
     by_cases hkj : k < j
     · obtain ⟨b, off, A', n', c', rfl, hc, hy, h1⟩ := (HV.out.stays hbr).at_ hkj; have HE2 : Hid ((m + n') * 3 = (vss.take (k + 1)).flatten.length) := by
        unfold Hid; rw [takeV_flatten vss k (by rw [HL.out]; exact hkj), List.length_append, hy.1, <- hm.out, Nat.add_mul]
       have hmn : m + n' <= T := by
        have h8 := HS.out (k + 1); rw [<- HE2.out] at h8; omega
       have HO := qq hownr; have HY := qq hy; have H1 := qq h1; have hsz := hbr.size; clear hownr hy h1
       go_wp2_with (at_builtin; refine wpList_append_rd rfl _ _ 133 rfl i0 (.agg #[.bool false, .int .i64 0, .slice none 0 0]) 40 Tryz.underlying133 hi hz0 hz1 hz2 rfl (by decide) rfl HO.out rfl HY.out H1.out ?c1 ?c2 ?c3 ?_)
       case c1 => unfold maxLen; omega
       case c2 => omega
       case c3 => exact hsz
       intro A8 c8 w8 hown8 hg8 hb8; have H8 := qq hown8; clear hown8; go_wp2
       go_roundw
       case rel =>
        refine ⟨k + 1, m + n', _, _, by omega, by go_num, rfl, HE2, ?_, hbr.trans hb8⟩; rw [takeV_flatten vss k (by rw [HL.out]; exact hkj)]; exact H8.out
       case measure => simp [intOf]; omega
     · obtain rfl : k = j := by omega
       have HE3 : Hid (m = T) := by
        have h8 := hm.out; rw [List.take_of_length_le (by rw [HL.out]; exact Nat.le_refl _), HT.out] at h8; exact Nat.eq_of_mul_eq_mul_right (by decide) h8
       have HO := qq hownr; clear hownr; go_wp2; go_ret; refine ⟨AA, cc, by rw [<- HE3.out]; rfl, ?_, hbr⟩; have := HO.out; rw [HE3.out, List.take_of_length_le (by rw [HL.out]; exact Nat.le_refl _)] at this; exact this
theorem infoIC : (Tryz.prog.info? 3).map (fun i => (i.zero, i.size, i.bytes)) = some (some (.int .i64 0), 1, 8) := by kernel_rfl
theorem growI_nil (k : Nat) (hk : k <= 100000) (w : World) :
    Calls Tryz.prog 114 #[.slice none 0 0, .int .i64 k] w fun e w' => ∃ A c, e = .returned (.slice A 0 c) ∧ w'.ownsRow w.heap.size 3 1 (.slice A 0 c) 0 [] ∧ Below w.heap.size w w' := by
 by_cases h0 : k = 0
 · subst h0
   go_enter Tryz.func114, Tryz.ntmps114
   go_wp2; go_ret; exact ⟨none, 0, rfl, own_nil _ _ _ _, Below.refl _ _⟩
 · obtain ⟨i0, hi, hz0, hz1, hz2⟩ := info_parts infoIC; have hr := Lib.run_append_nil_zeros (P := Tryz.prog) w 77 3 77 3 i0 (.int .i64 0) .i64 .i64 Tryz.underlying77 Tryz.underlying3 hi hz0 k (by omega) (by omega) (by omega) (by rw [hz2]; omega); have HR := qq hr; have hpos : 0 < k := by omega
   have h0' : (k == 0) = false := by simpa using h0
   clear hr h0
   go_enter Tryz.func114, Tryz.ntmps114
   go_wp2_with (at_builtin; refine Lib.wpList_append_run w rfl _ _ _ _ rfl _ _ rfl rfl _ _ HR.out ?_)
   go_ret; have hge := grownCap_ge w k 0 3; have hle := grownCap_le_maxLen w k 0 3 (by unfold maxLen; omega); refine ⟨_, _, rfl, World.ownsRow_made w.drew _ _ (Nat.le_refl _) hle ?_, ((Below.refl _ _).drew).alloc (Nat.le_refl _) _⟩; simp only [Array.size_append, size_zeroCells, Value.cells]; simp; omega

theorem catI_any (A : Option Addr) (n c : Nat) (vss : List (List Value)) (w : World) (hv : RowsV 1 w A n c vss) (T : Nat) (hT : vss.flatten.length = T * 1) (ht : T <= 100000) :
    Calls Tryz.prog 63 #[.slice A n c] w fun e w' => ∃ A' c', e = .returned (.slice A' T c') ∧
      w'.ownsRow w.heap.size 3 1 (.slice A' T c') T vss.flatten ∧ Below w.heap.size w w' := by
 obtain ⟨i0, hi, hz0, hz1, hz2⟩ := info_parts infoIC; have hcap := hv.cap; have hle := hv.le; have HL := qq hv.len; have HV := qq hv; have HT := qq hT; have hsum : ∀ j, (vss.take j).flatten.length <= T * 1 := fun j => by rw [<- hT]; exact flattenV_take_le vss j
 have HS := qq hsum; clear hv hsum hT
 go_enter Tryz.func63, Tryz.ntmps63
 go_wp2
 go_loop [3, 11] (fun s i => ∃ j t : Nat, j <= n ∧ i = .int .i64 j ∧ s = .int .i64 t ∧ t <= T ∧ Hid (t * 1 = (vss.take j).flatten.length)) (fun _ i => n - (intOf i).toNat)
 case atStart => exact ⟨0, 0, Nat.zero_le _, rfl, rfl, Nat.zero_le _, by simp [Hid]⟩
 case round =>
  obtain ⟨j, t, hj, rfl, rfl, htT, hte⟩ := hrel
  by_cases hjk : j < n
  · obtain ⟨b, off, A', n', c', rfl, hc, hy, h1⟩ := HV.out.at_ hjk; have hn' : t + n' <= T := by
     have := HS.out (j + 1); rw [takeV_flatten vss j (by rw [HL.out]; exact hjk), List.length_append, hy.1, <- hte.out] at this; omega
    have HE : Hid ((t + n') * 1 = (vss.take (j + 1)).flatten.length) := by
     unfold Hid; rw [takeV_flatten vss j (by rw [HL.out]; exact hjk), List.length_append, hy.1, <- hte.out, Nat.add_mul]
    clear hy h1; go_wp2
    go_round
    case rel => exact ⟨j + 1, t + n', by omega, by go_num, by go_num, hn', HE⟩
    case measure => simp [intOf]; omega
  · obtain rfl : j = n := by omega
    have HE : Hid (t = T) := by
     have h8 := hte.out; rw [List.take_of_length_le (by rw [HL.out]; exact Nat.le_refl _), HT.out] at h8; exact Nat.eq_of_mul_eq_mul_right (by decide) h8
    go_wp2_with fail
    refine (growI_nil t (by omega) _).mono ?_; rintro e w1 ⟨A6, c6, rfl, hown, hb1⟩
    go_wp2_with fail
    go_loopw [6, 27] (fun s i wr => ∃ (k m cc : Nat) (AA : Option Addr), k <= j ∧ i = .int .i64 k ∧ s = .slice AA m cc ∧ Hid (m * 1 = (vss.take k).flatten.length) ∧
        wr.ownsRow w.heap.size 3 1 (.slice AA m cc) m (vss.take k).flatten ∧ Below w.heap.size w wr) (fun _ i _ => j - (intOf i).toNat)
    case atStart => exact ⟨0, 0, _, _, Nat.zero_le _, rfl, rfl, by simp [Hid], hown, hb1⟩
    case round =>
     obtain ⟨k, m, cc, AA, hk, rfl, rfl, hm, hownr, hbr⟩ := hrel
     by_cases hkj : k < j
     · obtain ⟨b, off, A', n', c', rfl, hc, hy, h1⟩ := (HV.out.stays hbr).at_ hkj; have HE2 : Hid ((m + n') * 1 = (vss.take (k + 1)).flatten.length) := by
        unfold Hid; rw [takeV_flatten vss k (by rw [HL.out]; exact hkj), List.length_append, hy.1, <- hm.out, Nat.add_mul]
       have hmn : m + n' <= T := by
        have h8 := HS.out (k + 1); rw [<- HE2.out] at h8; omega
       have HO := qq hownr; have HY := qq hy; have H1 := qq h1; have hsz := hbr.size; clear hownr hy h1
       go_wp2_with (at_builtin; refine wpList_append_rd rfl _ _ 77 rfl i0 (.int .i64 0) 8 Tryz.underlying77 hi hz0 hz1 hz2 rfl (by decide) rfl HO.out rfl HY.out H1.out ?c1 ?c2 ?c3 ?_)
       case c1 => unfold maxLen; omega
       case c2 => omega
       case c3 => exact hsz
       intro A8 c8 w8 hown8 hg8 hb8; have H8 := qq hown8; clear hown8; go_wp2
       go_roundw
       case rel =>
        refine ⟨k + 1, m + n', _, _, by omega, by go_num, rfl, HE2, ?_, hbr.trans hb8⟩; rw [takeV_flatten vss k (by rw [HL.out]; exact hkj)]; exact H8.out
       case measure => simp [intOf]; omega
     · obtain rfl : k = j := by omega
       have HE3 : Hid (m = T) := by
        have h8 := hm.out; rw [List.take_of_length_le (by rw [HL.out]; exact Nat.le_refl _), HT.out] at h8; exact Nat.eq_of_mul_eq_mul_right (by decide) h8
       have HO := qq hownr; clear hownr; go_wp2; go_ret; refine ⟨AA, cc, by rw [<- HE3.out]; rfl, ?_, hbr⟩; have := HO.out; rw [HE3.out, List.take_of_length_le (by rw [HL.out]; exact Nat.le_refl _)] at this; exact this
theorem idxI_any (A : Option Addr) (n c : Nat) (l : List Nat) (x : Nat) (w : World) (hv : IntsL w A n c l) : Calls Tryz.prog 143 #[.slice A n c, .int .i64 x] w fun e w' => (∃ r : Int, e = .returned (.int .i64 r) ∧ (0 <= r ↔ x ∈ l)) ∧ w = w' := by
 have hle := hv.2.1; have hcap : c <= 9223372036854775807 := by have := hv.2.2.1; unfold maxLen at this; omega
 have HV := qq hv; have HL := qq hv.len; clear hv
 go_enter Tryz.func143, Tryz.ntmps143
 go_wp2
 go_loop [8] (fun i => ∃ k : Nat, k <= n ∧ i = .int .i64 k ∧ Hid (∀ j, j < k -> l.getD j 0 ≠ x)) (fun i => n - (intOf i).toNat)
 case atStart => exact ⟨0, Nat.zero_le _, rfl, fun j hj => by omega⟩
 case round =>
  obtain ⟨k, hk, rfl, HN⟩ := hrel
  by_cases hkn : k < n
  · have hki : (k : Int) < (n : Int) := by omega
    obtain ⟨bb, off, rfl, hc0⟩ := HV.out.at_ hkn; obtain ⟨t, et⟩ : ∃ t, l.getD k 0 = t := ⟨_, rfl⟩; have HT := qq et; rw [et] at hc0; clear et
    by_cases hx : x = t
    · have HX := qq hx; have hxI : (x : Int) = (t : Int) := by omega
      subst hx; clear hxI; go_wp2; go_ret; refine ⟨⟨_, rfl, ⟨fun _ => ?_, fun _ => by omega⟩⟩, rfl⟩; have h9 := HT.out; rw [<- h9]; have hkl : k < l.length := by rw [HL.out]; exact hkn
      simp [List.getD, hkl]
    · have hxI : ¬ (x : Int) = (t : Int) := by omega
      have HX := qq hx; have hxn : ¬ t = x := fun e => hx e.symm
      clear hx; go_wp2
      go_round
      case rel =>
       refine ⟨k + 1, by omega, by go_num, fun j hj => ?_⟩; rcases Nat.lt_succ_iff_lt_or_eq.1 hj with h | h
       · exact HN.out j h
       · rw [h, HT.out]; exact fun e => HX.out e.symm
      case measure => simp [intOf]; omega
  · have hk9 : k = n := by omega
    subst hk9; clear hkn; go_wp2; go_ret; refine ⟨⟨_, rfl, ⟨fun h => by omega, fun h => ?_⟩⟩, rfl⟩; obtain ⟨j, hj, e⟩ := List.mem_iff_getElem.1 h; exact absurd (by simp [List.getD, hj, e]) (HN.out j (by rw [<- HL.out]; exact hj))
theorem containsI_any (A : Option Addr) (n c : Nat) (l : List Nat) (x : Nat) (w : World) (hv : IntsL w A n c l) : Calls Tryz.prog 118 #[.slice A n c, .int .i64 x] w fun e w' => e = .returned (.bool (decide (x ∈ l))) ∧ w = w' := by
 have HV := qq hv; clear hv
 go_enter Tryz.func118, Tryz.ntmps118
 go_wp2_with fail
 refine (idxI_any A n c l x _ HV.out).mono ?_; rintro e w1 ⟨⟨r, rfl, hr⟩, rfl⟩; have HR := qq hr; clear hr; go_wp2; go_ret; exact ⟨by rw [<- decide_eq_decide.2 HR.out]; rfl, rfl⟩
structure MsgOk (rs : List RecT) : Prop where
 ty : ∀ i, i < rs.length -> ∃ t : Nat, recT rs i = (t : Int) ∧ t < 8
 len : rs.length <= 64
 end1 : (kindL rs 0).length = 1
 endE : recD (kindL rs 0) 0 = []
 last : recT rs (rs.length - 1) = 0
 once : ∀ k, (kindL rs k).length <= 1 ∨ k = 5
 two : ∀ i, i < (kindL rs 1 ++ kindL rs 4).length -> (recD (kindL rs 1 ++ kindL rs 4) i).length = 2
 port : kindL rs 7 = []
theorem infoMsg : (Tryz.prog.info? 142).map (·.size) = some 2 := by kernel_rfl
theorem blk_newm (w : World) (o : Obj) (t1 : TypeId) (c1 : Array Value) : Blk ((w.alloc o).alloc (.cells c1 t1)) (w.heap.size + 1) t1 c1 := by
 have := Blk.new (w.alloc o) t1 c1
 simpa using this
theorem RecL.append {w : World} {A : Option Addr} {n c : Nat} {rs1 rs2 : List RecT} {vs1 vs2 : List Value} (h1 : ItemsV 3 encRec datRec w none vs1 rs1) (h2 : ItemsV 3 encRec datRec w none vs2 rs2) (h : Rd w 3 A n c (vs1 ++ vs2)) : RecL w A n c (rs1 ++ rs2) := by
 refine ⟨vs1 ++ vs2, h, by rw [List.length_append, List.length_append, Nat.add_mul, h1.1, h2.1], fun i x hx => ?_⟩; have hl := h1.1
 by_cases hi : i < rs1.length
 · rw [List.getElem?_append_left hi] at hx; obtain ⟨A', n', c', e1, e2, e3⟩ := h1.2 i x hx; refine ⟨A', n', c', fun k hk => ?_, e2, e3⟩; rw [List.getElem?_append_left (by omega)]; exact e1 k hk
 · rw [List.getElem?_append_right (by omega)] at hx; obtain ⟨A', n', c', e1, e2, e3⟩ := h2.2 (i - rs1.length) x hx; refine ⟨A', n', c', fun k hk => ?_, e2, e3⟩; rw [List.getElem?_append_right (by omega), show i * 3 + k - vs1.length = (i - rs1.length) * 3 + k by rw [hl, Nat.sub_mul]; omega]; exact e1 k hk
def noBool (cs : List Value) : Bool := cs.all fun v => match v with | .bool _ => false | _ => true
theorem RecL.keptB {w w' : World} {A : Option Addr} {n c g : Nat} {T : TypeId} {cs : Array Value} {rs : List RecT} (h : RecL w A n c rs) (hB : Blk w g T cs) (h1 : noByte cs.toList = true) (h2 : noBool cs.toList = true) (hg : w.grownBy w' (some g)) : RecL w' A n c rs := by
 have hl := h.len
 cases n with
 | zero =>
  obtain ⟨vs, hr, hit⟩ := h; have hv : vs = [] := List.eq_nil_of_length_eq_zero (by have := hr.1; omega); have he : rs = [] := List.eq_nil_of_length_eq_zero hl; subst hv he; exact ⟨[], ⟨hr.1, hr.2.1, hr.2.2.1, fun i u hu => by simp at hu⟩, ItemsV.nil _ _⟩
 | succ n =>
  obtain ⟨b, off, A', n', c', rfl, hc0, _⟩ := h.at_ (Nat.succ_pos n); have hbg : b ≠ g := by
   intro e; subst e; rw [hB.cell, <- Array.getElem?_toList] at hc0; have h3 := List.all_eq_true.1 h2 _ (List.mem_of_getElem? hc0); simp at h3
  have hlt := World.block_lt_of_cell? w _ hc0; have hbl := hg.block b hlt (fun e => hbg (Option.some.inj e)); obtain ⟨vs, hr, hit⟩ := h; refine ⟨vs, ⟨hr.1, hr.2.1, hr.2.2.1, fun i u hu => ?_⟩, hit.1, fun i x hx => ?_⟩
  · obtain ⟨b', off', e, hc⟩ := hr.2.2.2 i u hu
    cases e
    exact ⟨b, off, rfl, (World.cell?_of_block (a := ⟨b, off + i, none⟩) hbl).trans hc⟩
  · obtain ⟨A2, n2, c2, e1, e2, e3⟩ := hit.2 i x hx; exact ⟨A2, n2, c2, e1, e2.kept hg (off_block e2 hB h1), e3⟩
theorem read_any (A : Option Addr) (n c : Nat) (rs : List RecT) (w : World) (hv : Bytes w A n c (rs.flatMap encR)) (hn : n <= 65535) (ho : MsgOk rs) : Calls Tryz.prog 75 #[.slice A n c] w fun e w' => ∃ v, e = .returned (.tuple #[v, .bool true]) ∧ MsgV w' v rs ∧ Below w.heap.size w w' := by
 obtain ⟨i0, hi, hz0, hz1, hz2⟩ := info_parts infoRec3; have HV := qq hv; have HO := qq ho; have hl64 := ho.len; clear hv ho; have hmm := @run_makeMap Tryz.prog
 go_enter Tryz.func75, Tryz.ntmps75
 go_wp2_with fail
 obtain ⟨y1, r_, ey1, er_⟩ : ∃ y1 r_, y1 = w.alloc (.cells #[.slice none 0 0, .map none] 142) ∧ r_ = w.heap.size := ⟨_, _, rfl, rfl⟩; rw [<- ey1, <- er_]; have RW := qq (show Below w.heap.size w y1 by rw [ey1]; exact below_alloc1 _ _); have BR := qq (show Blk y1 r_ 142 #[.slice none 0 0, .map none] by rw [ey1, er_]; exact Blk.new _ _ _); have wr_ : w.heap.size <= r_ := by omega
 clear ey1 er_; refine (rDecode_any A n c rs _ (HV.out.stays RW.out) HO.out.ty hl64 hn).mono ?_; rintro e y3 ⟨A3, c3, rfl, hR3, hx⟩; have HR := qq hR3; have BR := qs BR hx; have RW := qt RW hx; have RB := qq hx; obtain ⟨N, hN⟩ : ∃ N, rs.length = N := ⟨_, rfl⟩; have HN := qq hN; rw [hN] at hl64 HR ⊢; clear hR3 hx hN HV
 go_upto_region 5 with (refine wpList_store_part rfl 142 _ _ rfl (y3.heap.size + 1) 0 142 [] [.slice none 0 0, .map none] [] [.slice A3 N c3, .map (some y3.heap.size)] rfl rfl (blk_newm _ _ _ _) rfl rfl infoMsg (by simp [Value.oneCell']) ?_; intro y4 D G; rw [List.append_nil, List.nil_append] at D)
 clear hmm; obtain ⟨y3m, ey3m⟩ : ∃ y3m, y3.alloc (.map #[] 0) = y3m := ⟨_, rfl⟩; have hsz : y3m.heap.size = y3.heap.size + 1 := by rw [<- ey3m]; simp
 have HG := qq (show GrpV y3 y3m y3.heap.size 0 [] by rw [<- ey3m]; exact GrpV.made (Below.refl _ _)); have hxm : Below y3.heap.size y3 y3m := by rw [<- ey3m]; exact (Below.refl _ _).alloc (Nat.le_refl _) _
 have G2 : Below y3m.heap.size y3m y4 := by
  rw [ey3m] at G; rw [<- hsz] at G; exact below_new_store G
 have HG := qs HG G2; have hx4 : Below y3.heap.size y3 y4 := hxm.trans (G2.mono (by omega)); obtain ⟨m_, q_, em, eq⟩ : ∃ m_ q_, m_ = y3.heap.size ∧ q_ = y3.heap.size + 1 := ⟨_, _, rfl, rfl⟩; rw [<- eq] at D ⊢; rw [<- em] at D HG ⊢; have BQ := qq D; have rm : r_ < m_ := by rw [em]; exact BR.out.lt
 have mq : m_ < q_ := by omega
 have wm : w.heap.size <= m_ := by omega
 have wq_ : w.heap.size <= q_ := by omega
 have ym : y3.heap.size <= m_ := by omega
 have BR := qs BR hx4; have RW := qt RW hx4; have R3 := qq hx4; clear D G G2 hxm hx4 hsz ey3m em eq RB; have q3 := HR.out.le; have q4 := HR.out.cap; go_wp2
 go_loopw [29] (fun i wr => ∃ (k : Nat), k <= N ∧ i = .int .i64 k ∧ Hid (GrpV y3 wr m_ k (rs.take k)) ∧ Hid (Blk wr q_ 142 #[.slice A3 N c3, .map (some m_)]) ∧ Hid (Blk wr r_ 142 #[.slice none 0 0, .map none]) ∧ Below w.heap.size w wr) (fun i _ => N - (intOf i).toNat)
 case atStart => exact ⟨0, Nat.zero_le _, rfl, HG.out, BQ.out, BR.out, RW.out⟩
 case round =>
  clear HG BQ BR RW; obtain ⟨k, hk, rfl, HG, BQ, BR, hbr⟩ := hrel; have RW := qq hbr; clear hbr
  by_cases hkn : k < N
  · have hki : (k : Int) < (N : Int) := by omega
    obtain ⟨bb, off, Ab, nb, cb, rfl, hc0, hc1, hc2, hy⟩ := HR.out.at_ hkn; obtain ⟨t, et, ht8⟩ := HO.out.ty k (by rw [HN.out]; exact hkn); obtain ⟨cr, ecr⟩ : ∃ cr, recC rs k = cr := ⟨_, rfl⟩; obtain ⟨db, edb⟩ : ∃ db, recD rs k = db := ⟨_, rfl⟩; have HRE : Hid ((recC rs k, recT rs k, recD rs k) = (cr, (t : Int), db)) := by rw [Hid, ecr, et, edb]
    have R3 := qq HG.out.2.1; rw [et] at hc1; rw [ecr] at hc0; rw [edb] at hy; have hc0 := cell_stays R3.out hc0; have hc1 := cell_stays R3.out hc1; have hc2 := cell_stays R3.out hc2; obtain ⟨q, hq⟩ : ∃ q, off + k * 3 = q := ⟨_, rfl⟩; rw [hq] at hc0 hc1 hc2; have HY := qq hy; clear et ecr edb hy
    go_upto_region 8 with fail
    obtain ⟨y2, f_, ey2, ef_⟩ : ∃ y2 f_, y2 = wr.alloc (.cells #[.bool cr, .int .i64 (t : Int), .slice Ab nb cb] 132) ∧ f_ = wr.heap.size := ⟨_, _, rfl, rfl⟩; rw [<- ey2, <- ef_]; have hx : Below wr.heap.size wr y2 := by rw [ey2]; exact below_alloc1 _ _
    have BF := qq (show Blk y2 f_ 132 #[.bool cr, .int .i64 (t : Int), .slice Ab nb cb] by rw [ey2, ef_]; exact Blk.new _ _ _); have HX := qq hx; have HFE : Hid (f_ = wr.heap.size) := ef_; have HMF : Hid (m_ < f_) := by rw [Hid, ef_]; have h1 := BQ.out.lt; omega
    have BQ := qs BQ hx; have BR := qs BR hx; have RW := qt RW hx; have hk64 : k < maxLen := by unfold maxLen; omega
    obtain ⟨AK, mk, ck, vsK, hmk, hlk⟩ := HG.out.look hk64 cr (t : Int) db (by omega) (by omega) HY.out; have HLK := qq hlk; have HMK := qq (show mk <= 64 by rw [hmk]; exact Nat.le_trans (List.length_filter_le _ _) (by rw [List.length_take]; omega)); clear hx ey2 ef_ hc0 hc1 hc2 hq hlk hmk HG R3; refine take_start (S := fun u => Blk u q_ 142 #[.slice (some ⟨bb, off, none⟩) N c3, .map (some m_)] ∧ Blk u f_ 132 #[.bool cr, .int .i64 (t : Int), .slice Ab nb cb]) (by kernel_rfl) ?hPQ ⟨BQ.out.stays (Below.refl _ _).drew, BF.out.stays (Below.refl _ _).drew⟩ (fun hPQ hHeld => ?rest)
    case hPQ => (repeat (with_reducible first | refine PQ.then ?_ | refine PQ.block ?_)); exact fun _ _ d _ _ h => by cases d <;> exact h
    case rest =>
    have hd0 : Below wr.heap.size wr y2.drew := HX.out.trans ((Below.refl _ _).drew.mono HX.out.size); have hdd : Below y2.heap.size y2 y2.drew := (Below.refl _ _).drew; obtain ⟨yd, hyd⟩ : ∃ yd, y2.drew = yd := ⟨_, rfl⟩; rw [hyd] at hHeld hd0 hdd ⊢; clear hyd; refine qv (i := 0) (d := some 33) (v := .pointer (some ⟨q_, 1, none⟩)) rfl rfl (by kernel_rfl) hPQ (fun u hu => ?_) hHeld ?_
    · have k1 := hu.1.cell 1; have k2 := hu.2.cell 1; go_simp; try with_reducible rfl
    try simp only [qp, qn]
    refine qv (i := 1) (d := some 34) (v := .map (some m_)) rfl rfl (by kernel_rfl) hPQ (fun u hu => ?_) hHeld ?_
    · have k1 := hu.1.cell 1; have k2 := hu.2.cell 1; go_simp; try with_reducible rfl
    try simp only [qp, qn]
    refine qv (i := 2) (d := some 35) (v := .pointer (some ⟨f_, 1, none⟩)) rfl rfl (by kernel_rfl) hPQ (fun u hu => ?_) hHeld ?_
    · have k1 := hu.1.cell 1; have k2 := hu.2.cell 1; go_simp; try with_reducible rfl
    try simp only [qp, qn]
    refine qv (i := 3) (d := some 36) (v := .int .i64 (t : Int)) rfl rfl (by kernel_rfl) hPQ (fun u hu => ?_) hHeld ?_
    · have k1 := hu.1.cell 1; have k2 := hu.2.cell 1; go_simp; try with_reducible rfl
    try simp only [qp, qn]
    refine qv (i := 4) (d := some 37) (v := .pointer (some ⟨q_, 1, none⟩)) rfl rfl (by kernel_rfl) hPQ (fun u hu => ?_) hHeld ?_
    · have k1 := hu.1.cell 1; have k2 := hu.2.cell 1; go_simp; try with_reducible rfl
    try simp only [qp, qn]
    refine qv (i := 5) (d := some 38) (v := .map (some m_)) rfl rfl (by kernel_rfl) hPQ (fun u hu => ?_) hHeld ?_
    · have k1 := hu.1.cell 1; have k2 := hu.2.cell 1; go_simp; try with_reducible rfl
    try simp only [qp, qn]
    refine qv (i := 6) (d := some 39) (v := .pointer (some ⟨f_, 1, none⟩)) rfl rfl (by kernel_rfl) hPQ (fun u hu => ?_) hHeld ?_
    · have k1 := hu.1.cell 1; have k2 := hu.2.cell 1; go_simp; try with_reducible rfl
    try simp only [qp, qn]
    refine qv (i := 7) (d := some 40) (v := .int .i64 (t : Int)) rfl rfl (by kernel_rfl) hPQ (fun u hu => ?_) hHeld ?_
    · have k1 := hu.1.cell 1; have k2 := hu.2.cell 1; go_simp; try with_reducible rfl
    try simp only [qp, qn]
    refine qv (i := 9) (d := some 42) (v := .agg #[.bool cr, .int .i64 (t : Int), .slice Ab nb cb]) rfl rfl (by kernel_rfl) hPQ (fun u hu => ?_) hHeld ?_
    · exact exec_load_part 132 _ rfl f_ 0 132 [] [.bool cr, .int .i64 (t : Int), .slice Ab nb cb] [] _ rfl hu.2 rfl Tryz.underlying132 rfl infoRec
    try simp only [qp, qn]
    have hd2 : Below y2.heap.size y2 (yd.alloc (.cells #[.bool cr, .int .i64 (t : Int), .slice Ab nb cb] 132)) := hdd.alloc hdd.size _; have hd1 : Below wr.heap.size wr (yd.alloc (.cells #[.bool cr, .int .i64 (t : Int), .slice Ab nb cb] 132)) := hd0.alloc hd0.size _; refine take_or (i := 8) (j := 10) (by kernel_rfl) ?_ ?_
    · have k1 := (HLK.out _ hd0).1; refine op_do (j := 8) (d := some 41) (v := .slice AK mk ck) (w2 := yd) rfl rfl rfl (by go_simp; try with_reducible rfl) ⟨hHeld, ?_⟩; try simp only [qp, qn]
      clear k1; refine take_do (j := 10) (d := some 43) (v := .slice (some ⟨yd.heap.size, 0, none⟩) 1 1) (w2 := yd.alloc (.cells #[.bool cr, .int .i64 (t : Int), .slice Ab nb cb] 132)) rfl rfl (by kernel_rfl) rfl (Or.inl (by go_simp; try with_reducible rfl)) ⟨BQ.out.stays hd2, BF.out.stays hd2⟩ ?_; try simp only [qp, qn]
      have hRD : Rd (yd.alloc (.cells #[.bool cr, .int .i64 (t : Int), .slice Ab nb cb] 132)) 3 (some ⟨yd.heap.size, 0, none⟩) 1 1 [.bool cr, .int .i64 (t : Int), .slice Ab nb cb] := rd_three _ _ _ _ _; obtain ⟨_, hownK, hback⟩ := HLK.out _ hd1; obtain ⟨u10, hu10⟩ : ∃ u10, yd.alloc (.cells #[.bool cr, .int .i64 (t : Int), .slice Ab nb cb] 132) = u10 := ⟨_, rfl⟩; obtain ⟨b', hb'⟩ : ∃ b', yd.heap.size = b' := ⟨_, rfl⟩; rw [hu10] at hd1 hd2 hRD hownK hback ⊢; rw [hb'] at hRD ⊢; clear hu10 hb' hd0 hHeld; obtain ⟨A8, c8, w8, hrun8, h8, hg8, hloc8⟩ := run_append_rd (P := Tryz.prog) (w := u10) 133 133 i0 (.agg #[.bool false, .int .i64 0, .slice none 0 0]) 40 Tryz.underlying133 hi hz0 hz1 hz2 rfl (by decide) hownK hRD (by simp [Value.oneCell']) (by have := HMK.out; unfold maxLen; omega) (by have := HMK.out; omega) (by have h1 := BQ.out.lt; have h2 := hd2.size; omega); obtain ⟨w9, hrun9, HG9, hg9⟩ := hback w8 _ hg8 h8 hloc8; have BQ1 := BQ.out.stays hd2; have BF1 := BF.out.stays hd2; have BR1 := BR.out.stays hd2; have R1 := RW.out.trans (hd2.mono RW.out.size); have neq : some q_ ≠ (Value.slice AK mk ck).ownBlock := (own_ne hownK BQ1 (by decide)).symm; have nef : some f_ ≠ (Value.slice AK mk ck).ownBlock := fun e => by have h1 := ((HLK.out wr (Below.refl _ _)).2.1.lt f_ e.symm).2; have h2 := HFE.out; omega
      have ner : some r_ ≠ (Value.slice AK mk ck).ownBlock := fun e => by have h1 := (hownK.lt r_ e.symm).1; omega
      have BQ2 := BQ1.grown hg8 neq; have BF2 := BF1.grown hg8 nef; have BR2 := BR1.grown hg8 ner; have R2 := R1.grown hg8 R1.size (fun j hj => by have h1 := (hownK.lt j hj).1; omega); have mf : m_ < f_ := HMF.out; have BQ3 := BQ2.grown hg9 (by simp; omega); have BF3 := BF2.grown hg9 (by simp; omega); have BR3 := qq (BR2.grown hg9 (by simp; omega)); have R3 := qq (R2.grown hg9 R2.size (fun j hj => by cases hj; exact wm)); refine take_do (j := 11) (d := some 44) (v := .slice A8 (mk + 1) c8) (w2 := w8) rfl rfl (by kernel_rfl) rfl (Or.inl (exec_append rfl rfl rfl hrun8)) ⟨BQ2, BF2⟩ ?_; try simp only [qp, qn]
      refine take_do (j := 12) (d := none) (v := undef) (w2 := w9) rfl rfl (by kernel_rfl) rfl (Or.inr ⟨rfl, exec_mapUpdate rfl rfl rfl rfl hrun9⟩) ⟨BQ3, BF3⟩ ?_; try simp only [qp, qn]
      refine wpAnyH_done (by kernel_rfl) ?_ _; have HG9 : Hid (GrpV y3 w9 m_ (k + 1) (rs.take (k + 1))) := by rw [Hid, take_rec rs k (by rw [HN.out]; exact hkn), HRE.out]; exact HG9
      have BQ3 := qq BQ3; clear hrun8 hrun9 h8 hg8 hloc8 hg9 BQ1 BF1 BR1 R1 BQ2 BF2 BR2 R2 BF3 neq nef ner hback hownK hRD hd1 hd2; go_wp2
      go_roundw
      case rel => exact ⟨k + 1, by omega, by go_num, HG9, BQ3.out, BR3.out, R3.out⟩
      case measure => simp [intOf]; omega
    · refine op_do (j := 10) (d := some 43) (v := .slice (some ⟨yd.heap.size, 0, none⟩) 1 1) (w2 := yd.alloc (.cells #[.bool cr, .int .i64 (t : Int), .slice Ab nb cb] 132)) rfl rfl rfl (by go_simp; try with_reducible rfl) ⟨⟨BQ.out.stays hd2, BF.out.stays hd2⟩, ?_⟩; try simp only [qp, qn]
      have k1 := (HLK.out _ hd1).1; refine take_do (j := 8) (d := some 41) (v := .slice AK mk ck) (w2 := yd.alloc (.cells #[.bool cr, .int .i64 (t : Int), .slice Ab nb cb] 132)) rfl rfl (by kernel_rfl) rfl (Or.inl (by go_simp; try with_reducible rfl)) ⟨BQ.out.stays hd2, BF.out.stays hd2⟩ ?_; try simp only [qp, qn]
      clear k1; have hRD : Rd (yd.alloc (.cells #[.bool cr, .int .i64 (t : Int), .slice Ab nb cb] 132)) 3 (some ⟨yd.heap.size, 0, none⟩) 1 1 [.bool cr, .int .i64 (t : Int), .slice Ab nb cb] := rd_three _ _ _ _ _; obtain ⟨_, hownK, hback⟩ := HLK.out _ hd1; obtain ⟨u10, hu10⟩ : ∃ u10, yd.alloc (.cells #[.bool cr, .int .i64 (t : Int), .slice Ab nb cb] 132) = u10 := ⟨_, rfl⟩; obtain ⟨b', hb'⟩ : ∃ b', yd.heap.size = b' := ⟨_, rfl⟩; rw [hu10] at hd1 hd2 hRD hownK hback ⊢; rw [hb'] at hRD ⊢; clear hu10 hb' hd0 hHeld; obtain ⟨A8, c8, w8, hrun8, h8, hg8, hloc8⟩ := run_append_rd (P := Tryz.prog) (w := u10) 133 133 i0 (.agg #[.bool false, .int .i64 0, .slice none 0 0]) 40 Tryz.underlying133 hi hz0 hz1 hz2 rfl (by decide) hownK hRD (by simp [Value.oneCell']) (by have := HMK.out; unfold maxLen; omega) (by have := HMK.out; omega) (by have h1 := BQ.out.lt; have h2 := hd2.size; omega); obtain ⟨w9, hrun9, HG9, hg9⟩ := hback w8 _ hg8 h8 hloc8; have BQ1 := BQ.out.stays hd2; have BF1 := BF.out.stays hd2; have BR1 := BR.out.stays hd2; have R1 := RW.out.trans (hd2.mono RW.out.size); have neq : some q_ ≠ (Value.slice AK mk ck).ownBlock := (own_ne hownK BQ1 (by decide)).symm; have nef : some f_ ≠ (Value.slice AK mk ck).ownBlock := fun e => by have h1 := ((HLK.out wr (Below.refl _ _)).2.1.lt f_ e.symm).2; have h2 := HFE.out; omega
      have ner : some r_ ≠ (Value.slice AK mk ck).ownBlock := fun e => by have h1 := (hownK.lt r_ e.symm).1; omega
      have BQ2 := BQ1.grown hg8 neq; have BF2 := BF1.grown hg8 nef; have BR2 := BR1.grown hg8 ner; have R2 := R1.grown hg8 R1.size (fun j hj => by have h1 := (hownK.lt j hj).1; omega); have mf : m_ < f_ := HMF.out; have BQ3 := BQ2.grown hg9 (by simp; omega); have BF3 := BF2.grown hg9 (by simp; omega); have BR3 := qq (BR2.grown hg9 (by simp; omega)); have R3 := qq (R2.grown hg9 R2.size (fun j hj => by cases hj; exact wm)); refine take_do (j := 11) (d := some 44) (v := .slice A8 (mk + 1) c8) (w2 := w8) rfl rfl (by kernel_rfl) rfl (Or.inl (exec_append rfl rfl rfl hrun8)) ⟨BQ2, BF2⟩ ?_; try simp only [qp, qn]
      refine take_do (j := 12) (d := none) (v := undef) (w2 := w9) rfl rfl (by kernel_rfl) rfl (Or.inr ⟨rfl, exec_mapUpdate rfl rfl rfl rfl hrun9⟩) ⟨BQ3, BF3⟩ ?_; try simp only [qp, qn]
      refine wpAnyH_done (by kernel_rfl) ?_ _; have HG9 : Hid (GrpV y3 w9 m_ (k + 1) (rs.take (k + 1))) := by rw [Hid, take_rec rs k (by rw [HN.out]; exact hkn), HRE.out]; exact HG9
      have BQ3 := qq BQ3; clear hrun8 hrun9 h8 hg8 hloc8 hg9 BQ1 BF1 BR1 R1 BQ2 BF2 BR2 R2 BF3 neq nef ner hback hownK hRD hd1 hd2; go_wp2
      go_roundw
      case rel => exact ⟨k + 1, by omega, by go_num, HG9, BQ3.out, BR3.out, R3.out⟩
      case measure => simp [intOf]; omega
  · have hk9 : k = N := by omega
    subst hk9; obtain ⟨ws, hws⟩ : ∃ ws, ws = wr := ⟨_, rfl⟩; subst hws; clear hkn hk; have h9 := HG.out; rw [List.take_of_length_le (by rw [HN.out]; exact Nat.le_refl _)] at h9; obtain ⟨V, hV, hK⟩ := h9.done; have HR := qq (HR.out.stays h9.2.1); have HV := qq hV; have HK := qq hK; have hk1 : 1 <= k := by rw [<- HN.out, <- HO.out.end1]; exact List.length_filter_le _ _
    obtain ⟨A0, c0, e0, r0⟩ := hK 0; rw [HO.out.end1] at e0 r0; have l0 := hV.look (k := 0) (by decide) (by decide); rw [e0] at l0; obtain ⟨b0, o0, Ae, ne, ce, rfl, _, _, h02, h03⟩ := r0.at_ (i := 0) (by decide); rw [HO.out.endE] at h03; obtain rfl : ne = 0 := by rw [<- h03.len]; rfl
    obtain ⟨j, rfl⟩ : ∃ j, k = j + 1 := ⟨k - 1, by omega⟩; obtain ⟨bb, off, Al, nl, cl, rfl, _, hl1, _, _⟩ := HR.out.at_ (i := j) (by omega); have hlast := HO.out.last; rw [HN.out, Nat.add_sub_cancel] at hlast; rw [hlast] at hl1; have cq1 := BQ.out.cell 1; clear h9 hV hK r0 h03 hlast HG hk1 e0; have wj : IntKind.i64.wrap (j : Int) = (j : Int) := IntWalk.i64_in _ (by omega)
    go_upto_region 13 with fail
    clear l0 h02 hl1 wj; obtain ⟨D, hown, _, hat⟩ := HV.out; have HAT := qq hat; clear hat
    go_wp2_with (first | (at_range; refine wpList_range_own _ rfl _ 140 rfl 3 133 (Maps.int_keyed Tryz.underlying3) Tryz.underlying140 rawR m_ _ D rfl hown ?_; intro w0 hrg0 hg0 hs0) | go_in)
    try go_frame
    obtain ⟨it_, eit⟩ : ∃ it_, ws.heap.size = it_ := ⟨_, rfl⟩; rw [eit] at hrg0 ⊢

    rw [show (((j + 1 : Nat)) : Int) = (j : Int) + 1 by omega]; have hbw0 : Below ws.heap.size ws w0 := (Below.refl _ _).grown hg0 (Nat.le_refl _) (fun k hk => by cases hk); have HIT := qq eit; clear eit hown cq1
    go_loopw [10] (fun _ wz => ∃ left cnt, wz.ranges Tryz.prog 3 rawR m_ it_ (j + 1) D left cnt ∧ Below ws.heap.size ws wz) (fun _ wz => wz.rangeLeft m_ it_)
    case atStart => exact ⟨_, _, hrg0, hbw0⟩
    case round =>
     clear hrg0 hg0 hs0 hbw0; obtain ⟨left, cnt, hrg, hbz⟩ := hrel
     go_wp2_with (first | (at_next; refine wpList_next_ranges _ rfl _ rfl 3 (Maps.int_keyed Tryz.underlying3) rawR (Value.int .i64) (id : Value -> Value) (fun key kl h => invK h) (fun v y h => invV h) m_ it_ (j + 1) D left cnt rfl hrg ?_ ?_) | go_in)
     · intro _ _; obtain ⟨wx, hwx⟩ : ∃ wx, wx = wr := ⟨_, rfl⟩; subst hwx; have BQ := qs BQ hbz; have BR := qs BR hbz; have RW := qt RW hbz; have HV := qs HV hbz; have HR := qs HR hbz; have HBZ := qq hbz; clear hrg hbz; obtain ⟨A1, c1, e1, r1⟩ := HK.out 1; obtain ⟨A4, c4, e4, r4⟩ := HK.out 4; have l1 := HV.out.look (k := 1) (by decide) (by decide); have l4 := HV.out.look (k := 4) (by decide) (by decide); rw [e1] at l1; rw [e4] at l4; obtain ⟨n1, en1⟩ : ∃ n1, (kindL rs 1).length = n1 := ⟨_, rfl⟩; obtain ⟨n4, en4⟩ : ∃ n4, (kindL rs 4).length = n4 := ⟨_, rfl⟩; rw [en1] at l1 r1; rw [en4] at l4 r4; obtain ⟨vs1, rd1, it1⟩ := r1.stays HBZ.out; obtain ⟨vs4, rd4, it4⟩ := r4.stays HBZ.out; have hn1 : n1 <= 1 := by rw [<- en1]; exact (HO.out.once 1).resolve_right (by decide)
       have hn4 : n4 <= 1 := by rw [<- en4]; exact (HO.out.once 4).resolve_right (by decide)
       have cq1 := BQ.out.cell 1; have hRV : RowsV 3 (wx.alloc (.cells #[.slice A1 n1 c1, .slice A4 n4 c4] 133)) (some ⟨wx.heap.size, 0, none⟩) 2 2 [vs1, vs4] := by
        refine RowsV.made (vs := [.slice A1 n1 c1, .slice A4 n4 c4]) (Blk.new _ _ _) rfl (by simp [maxLen]) (fun i us hi => ?_)
        match i, hi with
        | 0, hi => simp only [List.getElem?_cons_zero, Option.some.injEq] at hi; subst hi; exact ⟨_, _, _, rfl, rd1.stays (below_alloc1 _ _), it1.oneR⟩
        | 1, hi => simp only [List.getElem?_cons_succ, List.getElem?_cons_zero, Option.some.injEq] at hi; subst hi; exact ⟨_, _, _, rfl, rd4.stays (below_alloc1 _ _), it4.oneR⟩
       have hCT := catR_any _ _ _ _ _ hRV (n1 + n4) (by simp [rd1.1, rd4.1, Nat.add_mul]) (by omega); have HCT := qq hCT; have HI1 := qq it1; have HI4 := qq it4; have hxa : Below wx.heap.size wx (wx.alloc (.cells #[.slice A1 n1 c1, .slice A4 n4 c4] 133)) := below_alloc1 _ _; clear hCT hRV rd1 rd4 it1 it4 r1 r4 e1 e4
       go_wp2_with fail
       refine HCT.out.mono ?_; rintro e wy ⟨AC, cC, rfl, hown, hby⟩; have hx := hxa.trans (hby.mono hxa.size); have rC := own_rd hown; simp only [List.flatten_cons, List.flatten_nil, List.append_nil] at rC; have HRC := qq (RecL.append (HI1.out.stays hx) (HI4.out.stays hx) rC); have BQ := qs BQ hx; have BR := qs BR hx; have RW := qt RW hx; have HV := qs HV hx; have HR := qs HR hx; have HBZ := qt HBZ hx; have HEN : Hid ((kindL rs 1 ++ kindL rs 4).length = n1 + n4) := by rw [Hid, List.length_append, en1, en4]
       clear cq1 l1 l4 HCT hown hby hx rC hxa en1 en4 HI1 HI4; have hcC := HRC.out.cap; have hlC := HRC.out.le; obtain ⟨T, hT⟩ : ∃ T, n1 + n4 = T := ⟨_, rfl⟩; have hT2 : T <= 2 := by omega
       rw [hT] at HRC HEN hlC ⊢; clear hT hn1 hn4; go_wp2
       go_loopw [97] (fun i wv => ∃ (k : Nat), k <= T ∧ i = .int .i64 k ∧ Below wy.heap.size wy wv) (fun i _ => T - (intOf i).toNat)
       case atStart => exact ⟨0, Nat.zero_le _, rfl, Below.refl _ _⟩
       case round =>
        obtain ⟨k, hk, rfl, hbv⟩ := hrel; have HB5 := qq hbv
        by_cases hkT : k < T
        · have hki : (k : Int) < (T : Int) := by omega
          obtain ⟨b5, o5, A5, n5, c5, rfl, h50, h51, h52, h53⟩ := (HRC.out.stays hbv).at_ hkT; have h54 := HO.out.two k (by rw [HEN.out]; exact hkT); obtain rfl : n5 = 2 := by rw [<- h53.len]; exact h54
          obtain ⟨cr5, ec5⟩ : ∃ cr5, recC (kindL rs 1 ++ kindL rs 4) k = cr5 := ⟨_, rfl⟩; obtain ⟨t5, et5⟩ : ∃ t5, recT (kindL rs 1 ++ kindL rs 4) k = t5 := ⟨_, rfl⟩; rw [ec5] at h50; rw [et5] at h51; obtain ⟨q5, hq5⟩ : ∃ q5, o5 + k * 3 = q5 := ⟨_, rfl⟩; rw [hq5] at h50 h51 h52; clear h53 h54 ec5 et5 hbv; go_wp2
          go_roundw
          case rel => exact ⟨k + 1, by omega, by go_num, by first | exact HB5.out.trans (below_alloc1 _ _) | exact HB5.out.alloc HB5.out.size _⟩
          case measure => simp [intOf]; omega
        · obtain rfl : k = T := by omega
          clear hkT; obtain ⟨wu, hwu⟩ : ∃ wu, wu = wr := ⟨_, rfl⟩; subst hwu; have BQ := qs BQ hbv; have BR := qs BR hbv; have RW := qt RW hbv; have HV := qs HV hbv; have HR := qs HR hbv; have HBZ := qt HBZ hbv; obtain ⟨A7, c7, e7, _⟩ := HK.out 7; rw [HO.out.port] at e7; have l7 := HV.out.look (k := 7) (by decide) (by decide); rw [e7] at l7; have cq1 := BQ.out.cell 1; clear hbv e7; go_wp2
          go_loopw [112] (fun i wv => i = .int .i64 0 ∧ wv = wu) (fun _ _ => 0)
          case atStart => exact ⟨rfl, rfl⟩
          case round =>
           obtain ⟨rfl, rfl⟩ := hrel
           go_wp2_with (first
            | (refine wpList_load_part rfl 142 _ rfl q_ 0 142 [] [.slice (some ⟨bb, off, none⟩) (j + 1) c3, .map (some m_)] [] _ rfl BQ.out rfl Tryz.underlying142 rfl infoMsg ?_)
            | (refine wpList_store_part rfl 142 _ _ rfl r_ 0 142 [] [.slice none 0 0, .map none] [] [.slice (some ⟨bb, off, none⟩) (j + 1) c3, .map (some m_)] rfl rfl BR.out rfl rfl infoMsg (by simp [Value.oneCell']) ?_; intro y9 D9 G9; rw [List.append_nil, List.nil_append] at D9))
           refine bodyPost_ret (results_whole2 rfl _ _ r_ _ _ _ _ rfl rfl D9 Tryz.underlying142 rfl infoMsg) rfl ⟨_, rfl, ?_, RW.out.grown G9 RW.out.size (fun k hk => by cases hk; exact wr_)⟩; have hr9 := HR.out.keptB BR.out rfl rfl G9; refine ⟨_, c3, m_, _, V, by rw [HN.out], ?_, HV.out.kept G9 (by simp; omega), fun x => ?_⟩
           · rw [<- HN.out] at hr9; exact hr9
           · obtain ⟨A', c', h5, h6⟩ := HK.out x; exact ⟨A', c', h5, (h6.stays HBZ.out).keptB BR.out rfl rfl G9⟩
     · intro x cc kl y ps w1 cnt1 hkey _ hv hat1 hrg1 hlt hg1 hs1 hen; have hkl : kl = .int .i64 x := by obtain ⟨x2, e1, e2, _⟩ := Maps.keyOf_int_inv Tryz.underlying3 hkey; injection e1 with _ e1; rw [e2, e1]
       have hcc : cc = V x := by
        have h1 := hat1 (.held KZ); rw [hkl, HAT.out x] at h1; have h2 : y = .held cc := rawR_inv (v := cc) (d := y) (ps := ps) hv; rw [h2] at h1; injection h1 with h1
        exact h1.symm
       obtain ⟨Ax, cx, ex, rx⟩ := HK.out x; rw [ex] at hcc; subst hcc; have hb1 : Below ws.heap.size ws w1 := hbz.grown hg1 hbz.size (fun k hk => by cases hk; exact Nat.le_of_eq HIT.out); have H1 := qq hb1; have HRG := qq hrg1; have hleft := hrg.left_eq; have HLT := qq hlt; have HLF := qq hleft; obtain ⟨nx, enx⟩ : ∃ nx, (kindL rs x).length = nx := ⟨_, rfl⟩; have hon := HO.out.once x; rw [enx] at hon hen ⊢; clear hkey hv hat1 hrg1 hlt hg1 hs1 hkl ex rx hb1 hrg hbz hleft enx; try simp only [id] at hen ⊢
       by_cases h1 : nx <= 1
       · have h1i : ¬ (1 : Int) < (nx : Int) := by omega
         clear hon; go_wp2
         go_roundw
         case rel => first | exact ⟨⟨_, _, HRG.out⟩, H1.out⟩ | exact ⟨_, _, HRG.out, H1.out⟩
         case measure => rw [HRG.out.left_eq, HLF.out]; exact HLT.out
       · obtain rfl : x = 5 := hon.resolve_left h1; have h1i : (1 : Int) < (nx : Int) := by omega
         clear hon; have hC := containsI_any (some ⟨w1.heap.size, 0, none⟩) 4 4 [1, 4, 6, 7] 5 (w1.alloc (.cells #[.int .i64 1, .int .i64 4, .int .i64 6, .int .i64 7] 3)) ⟨rfl, by decide, by decide, fun i u hu => ⟨_, _, rfl, by rw [(Blk.new _ _ _).cell, Nat.zero_add]; simpa using hu⟩⟩; rw [show ((5 : Nat) : Int) = 5 from rfl] at hC; have hx : Below w1.heap.size w1 (w1.alloc (.cells #[.int .i64 1, .int .i64 4, .int .i64 6, .int .i64 7] 3)) := below_alloc1 _ _
         go_wp2_with fail
         refine hC.mono ?_; rintro e w2 ⟨rfl, rfl⟩; have HRG2 := qq (HRG.out.kept (grown_of_below hx none) (by simp) (by simp)); have H2 := qt H1 hx; clear hC hx; go_wp2
         go_roundw
         case rel => first | exact ⟨⟨_, _, HRG2.out⟩, H2.out⟩ | exact ⟨_, _, HRG2.out, H2.out⟩
         case measure => rw [HRG2.out.left_eq, HLF.out]; exact HLT.out
theorem has_any (v : Value) (rs : List RecT) (k : Nat) (w : World) (h : MsgV w v rs) (hk : k <= 7) : Calls Tryz.prog 80 #[v, .int .i64 k] w fun e w' => e = .returned (.bool (decide (0 < (kindL rs k).length))) ∧ Below w.heap.size w w' := by
 obtain ⟨A, c, b, n, V, rfl, hR, hV, hK⟩ := h; obtain ⟨A', c', e1, r1⟩ := hK k; have l := (hV.stays (below_alloc1 w (.cells #[.slice A rs.length c, .map (some b)] 142))).look (k := k) (by omega) (by omega); rw [e1] at l; obtain ⟨m, hm⟩ : ∃ m, (kindL rs k).length = m := ⟨_, rfl⟩; obtain ⟨N, hN⟩ : ∃ N, rs.length = N := ⟨_, rfl⟩; rw [hm] at l ⊢; rw [hN] at l ⊢; clear hR hV hK r1 e1 hm hN
 go_enter Tryz.func80, Tryz.ntmps80
 go_wp2; go_ret; refine ⟨?_, below_alloc1 _ _⟩
 first | rfl | simp | (simp; omega)
theorem numbersM_one (v : Value) (rs : List RecT) (k : Nat) (w : World) (h : MsgV w v rs) (hk : k <= 7) (h1 : (kindL rs k).length = 1) (h2 : (recD (kindL rs k) 0).length = 2) : Calls Tryz.prog 82 #[v, .int .i64 k] w fun e w' => ∃ A' c', e = .returned (.slice A' 1 c') ∧ IntsL w' A' 1 c' [be64 (recD (kindL rs k) 0) 2] ∧ Below w.heap.size w w' := by
 obtain ⟨A, c, b, n, V, rfl, hR, hV, hK⟩ := h; obtain ⟨A', c', e1, r1⟩ := hK k; have hx := below_alloc1 w (.cells #[.slice A rs.length c, .map (some b)] 142); have l := (hV.stays hx).look (k := k) (by omega) (by omega); rw [e1, h1] at l; rw [h1] at r1; obtain ⟨b5, o5, A5, n5, c5, rfl, _, _, hc2, hy⟩ := (r1.stays hx).at_ (i := 0) (by decide); have hle := r1.le; have hcap := r1.cap; obtain ⟨db, edb⟩ : ∃ db, recD (kindL rs k) 0 = db := ⟨_, rfl⟩; rw [edb] at hy h2 ⊢; obtain rfl : n5 = 2 := by rw [<- hy.len]; exact h2
 obtain ⟨N, hN⟩ : ∃ N, rs.length = N := ⟨_, rfl⟩; rw [hN] at l hc2 hy ⊢; have HY := qq hy; clear hR hV hK r1 e1 hN hx hy h1 h2 edb
 go_enter Tryz.func82, Tryz.ntmps82
 go_wp2_with fail
 refine (numbers_two _ _ _ _ HY.out).mono ?_; rintro e y ⟨A6, c6, rfl, hI, hb⟩; have HI := qq hI; have HB := qq ((below_alloc1 w _).trans (hb.mono (below_alloc1 w _).size)); clear hI hb l hc2; go_wp2; go_ret; exact ⟨A6, c6, rfl, HI.out, HB.out⟩
theorem strClo (cr : Bool) (t : Int) (A : Option Addr) (n c : Nat) (w : World) (ht : t <= 7) : Calls Tryz.prog 124 #[.agg #[.bool cr, .int .i64 t, .slice A n c]] w fun e w' => e = .returned (.bool false) ∧ Below w.heap.size w w' := by
 have ht2 : ¬ 7 < t := by omega
 rcases Bool.eq_false_or_eq_true cr with rfl | rfl
 all_goals
  go_enter Tryz.func124, Tryz.ntmps124
  go_wp2; go_ret; exact ⟨rfl, below_alloc1 _ _⟩
theorem strIdx_no (A : Option Addr) (n c : Nat) (rs : List RecT) (w : World) (hv : RecL w A n c rs) (hp : ∀ i, i < rs.length -> recT rs i <= 7) : Calls Tryz.prog 145 #[.slice A n c, .func (.func 124) #[] #[]] w fun e w' => e = .returned (.int .i64 (-1)) ∧ Below w.heap.size w w' := by
 have HV := qq hv; have HL := qq hv.len; have HP := qq hp; have cle : n <= c := hv.le; have ccap : c <= 9223372036854775807 := hv.cap; clear hv hp
 go_enter Tryz.func145, Tryz.ntmps145
 go_wp2
 go_loopw [8] (fun s wr => ∃ (j : Nat), s = .int .i64 j ∧ j <= n ∧ Below w.heap.size w wr) (fun s _ => n - (intOf s).toNat)
 case atStart => exact ⟨0, rfl, Nat.zero_le _, Below.refl _ _⟩
 case round =>
  obtain ⟨j, rfl, hjn, hb⟩ := hrel; have RW := qq hb
  by_cases hj : j < n
  · have hjI : (j : Int) < (n : Int) := by omega
    obtain ⟨b5, o5, A5, n5, c5, rfl, hc0, hc1, hc2, _⟩ := (HV.out.stays hb).at_ hj; have hp := HP.out j (by rw [HL.out]; exact hj); obtain ⟨cr, ecr⟩ : ∃ cr, recC rs j = cr := ⟨_, rfl⟩; obtain ⟨t, et⟩ : ∃ t, recT rs j = t := ⟨_, rfl⟩; rw [ecr] at hc0; rw [et] at hc1 hp; obtain ⟨q, hq⟩ : ∃ q, o5 + j * 3 = q := ⟨_, rfl⟩; rw [hq] at hc0 hc1 hc2; clear ecr et; clear hb
    go_wp2_with fail
    refine (strClo cr t A5 n5 c5 _ hp).mono ?_; rintro e y ⟨rfl, hb5⟩; have R5 := qt RW hb5; clear hb5; go_wp2
    go_roundw
    case rel => exact ⟨j + 1, by go_num, by omega, R5.out⟩
    case measure => simp [intOf]; omega
  · have ej : j = n := by omega
    subst ej; clear hj hb; go_wp2; go_ret; exact ⟨rfl, RW.out⟩
theorem strHas_no (A : Option Addr) (n c : Nat) (rs : List RecT) (w : World) (hv : RecL w A n c rs) (hp : ∀ i, i < rs.length -> recT rs i <= 7) : Calls Tryz.prog 123 #[.slice A n c, .func (.func 124) #[] #[]] w fun e w' => e = .returned (.bool false) ∧ Below w.heap.size w w' := by
 have HC := qq (strIdx_no A n c rs w hv hp); clear hv hp
 go_enter Tryz.func123, Tryz.ntmps123
 go_wp2_with fail
 refine HC.out.mono ?_; rintro e y ⟨rfl, hb⟩; have HB := qq hb; clear hb HC; go_wp2; go_ret; exact ⟨rfl, HB.out⟩
theorem strange_no (v : Value) (rs : List RecT) (w : World) (h : MsgV w v rs) (hp : ∀ i, i < rs.length -> recT rs i <= 7) : Calls Tryz.prog 79 #[v] w fun e w' => e = .returned (.bool false) ∧ Below w.heap.size w w' := by
 obtain ⟨A, c, b, n, V, rfl, hR, _, _⟩ := h; have hx := below_alloc1 w (.cells #[.slice A rs.length c, .map (some b)] 142); have HC := qq (strHas_no A _ c rs _ (hR.stays hx) hp); have HX := qq hx; obtain ⟨N, hN⟩ : ∃ N, rs.length = N := ⟨_, rfl⟩; rw [hN] at HC HX ⊢; clear hR hp hN hx
 go_enter Tryz.func79, Tryz.ntmps79
 go_wp2_with fail
 refine HC.out.mono ?_; rintro e y ⟨rfl, hb⟩; have HB := qt HX hb; clear hb HC; go_wp2; go_ret; exact ⟨rfl, HB.out⟩
theorem choose_one (A : Option Addr) (n c : Nat) (l : List Nat) (x : Nat) (A2 : Option Addr) (n2 c2 : Nat) (l2 : List Nat) (w : World) (h1 : IntsL w A n c l) (h2 : IntsL w A2 n2 c2 l2) (hn : 0 < n) (hx : l.getD 0 0 = x) (hm : x ∈ l2) : Calls Tryz.prog 122 #[.slice A n c, .slice A2 n2 c2] w fun e w' => e = .returned (.tuple #[.int .i64 x, .bool true]) ∧ w = w' := by
 have HC := qq (containsI_any A2 n2 c2 l2 x w h2); rw [decide_eq_true hm] at HC; obtain ⟨b, off, rfl, hc0⟩ := h1.at_ hn; rw [hx, Nat.add_zero] at hc0; have hle := h1.2.1; have hcap : c <= 9223372036854775807 := by have := h1.2.2.1; unfold maxLen at this; omega
 have hnI : (0 : Int) < (n : Int) := by omega
 clear h1 h2 hm hx
 go_enter Tryz.func122, Tryz.ntmps122
 go_wp2
 go_loop [10] (fun i => i = .int .i64 0) (fun _ => 0)
 case atStart => rfl
 case round =>
  obtain rfl := hrel
  go_wp2_with fail
  refine HC.out.mono ?_; rintro e y ⟨rfl, rfl⟩; go_wp2
  go_returns
  exact ⟨rfl, rfl⟩
theorem only_one (v : Value) (rs : List RecT) (k : Nat) (A2 : Option Addr) (n2 c2 : Nat) (l2 : List Nat) (w : World) (h : MsgV w v rs) (hk : k <= 7) (h1 : (kindL rs k).length = 1) (h2 : (recD (kindL rs k) 0).length = 2) (hl : IntsL w A2 n2 c2 l2) (hm : be64 (recD (kindL rs k) 0) 2 ∈ l2) : Calls Tryz.prog 81 #[v, .int .i64 k, .slice A2 n2 c2] w fun e w' => e = .returned (.tuple #[.int .i64 (be64 (recD (kindL rs k) 0) 2 : Nat), .bool true]) ∧ Below w.heap.size w w' := by
 have h' := h; obtain ⟨A, c, b, n, V, ev, _, _, _⟩ := h; obtain ⟨N, hN⟩ : ∃ N, rs.length = N := ⟨_, rfl⟩; rw [hN] at ev; subst ev; have hx := below_alloc1 w (.cells #[.slice A N c, .map (some b)] 142); have hM := h'.stays hx; have HX := qq hx; have hha := has_any _ rs k _ hM hk; rw [h1] at hha; have HH := qq hha; have HM := qq hM; have HI := qq (hl.stays hx); have HMM := qq hm; obtain ⟨wb, ewb⟩ : ∃ wb, w.alloc (.cells #[.slice A N c, .map (some b)] 142) = wb := ⟨_, rfl⟩; have BB := qq (show Blk wb w.heap.size 142 #[.slice A N c, .map (some b)] by rw [<- ewb]; exact Blk.new _ _ _); rw [ewb] at HH HM HI HX; obtain ⟨z, hz⟩ : ∃ z, be64 (recD (kindL rs k) 0) 2 = z := ⟨_, rfl⟩; rw [hz] at HMM ⊢; have HZ := qq hz; have H1 := qq h1; have H2 := qq h2; clear h' hM hha hN hx hl hm hz h1 h2
 go_enter Tryz.func81, Tryz.ntmps81
 go_upto_region 1 with fail
 try rw [ewb]
 go_wp2_with (first | (refine wpList_load_part rfl 142 _ rfl w.heap.size 0 142 [] [.slice A N c, .map (some b)] [] _ rfl BB.out rfl Tryz.underlying142 rfl infoMsg ?_))
 refine HH.out.mono ?_; rintro e y ⟨rfl, hb⟩; have BB := qs BB hb; have HX := qt HX hb; have HM := qs HM hb; have HI := qs HI hb; clear hb ewb HH
 go_wp2_with (first | (refine wpList_load_part rfl 142 _ rfl w.heap.size 0 142 [] [.slice A N c, .map (some b)] [] _ rfl BB.out rfl Tryz.underlying142 rfl infoMsg ?_))
 refine (numbersM_one _ rs k _ HM.out hk H1.out H2.out).mono ?_; rintro e y ⟨A6, c6, rfl, hI6, hb⟩; rw [HZ.out] at hI6; have HX := qt HX hb; have HI := qs HI hb; obtain ⟨b6, o6, rfl, hc6⟩ := hI6.at_ (i := 0) (by decide); have h6c : c6 <= 9223372036854775807 := by have := hI6.2.2.1; unfold maxLen at this; omega
 have h6l : 1 <= c6 := hI6.2.1; have hC := containsI_any A2 n2 c2 l2 z _ HI.out; rw [decide_eq_true HMM.out] at hC; have HC := qq hC; have hc6 : y.cell? ⟨b6, o6, none⟩ = some (.int .i64 z) := hc6; clear hb hI6 BB HM hC
 go_wp2_with fail
 refine HC.out.mono ?_; rintro e y2 ⟨rfl, rfl⟩; go_wp2
 go_returns
 exact ⟨rfl, HX.out⟩
theorem wpList_idx {P : Program} {w : World} {ops : Array Oper} {rest : List Oper} {o : Oper} {a : Act} {Q : Exit -> Act -> World -> Prop} {v : Value} {ty : TypeId} {x i : Operand} (hg : o.guard = none) (_ho : o.op = .index ty x i) (hrun : (execOp a.eval o).run P w = .ok (.value v) w) (h : wpList P ops Q rest (a.put o.dst v) w) : wpList P ops Q (o :: rest) a w := by
 refine wpList_plain hg fun K hK => ?_
 unfold Oper.wp; rw [hrun]; exact hK _ _ h
def reqR (p a : Nat) : List RecT := [(true, 1, putL p 2), (true, 4, putL a 2), (true, 0, [])]
theorem kindL_none {rs : List RecT} {k : Int} (h : ∀ r ∈ rs, r.2.1 ≠ k) : kindL rs k = [] := by
 unfold kindL; rw [List.filter_eq_nil_iff]; intro r hr
 simpa using h r hr
theorem reqR_ok (p a : Nat) : MsgOk (reqR p a) where
 ty := fun i hi => by
  have h3 : i < 3 := hi; rcases (by omega : i = 0 ∨ i = 1 ∨ i = 2) with rfl | rfl | rfl
  · exact ⟨1, rfl, by decide⟩
  · exact ⟨4, rfl, by decide⟩
  · exact ⟨0, rfl, by decide⟩
 len := by show 3 <= 64; decide
 end1 := rfl
 endE := rfl
 last := rfl
 once := fun k => by
  left
  by_cases h1 : k = 1
  · subst h1; exact Nat.le_refl 1
  by_cases h4 : k = 4
  · subst h4; exact Nat.le_refl 1
  by_cases h0 : k = 0
  · subst h0; exact Nat.le_refl 1
  rw [kindL_none (fun r hr => by simp [reqR] at hr; rcases hr with rfl | rfl | rfl <;> simp <;> omega)]; exact Nat.zero_le _
 two := fun i hi => by
  have h3 : i < 2 := hi; rcases (by omega : i = 0 ∨ i = 1) with rfl | rfl
  · exact putL_length _ _
  · exact putL_length _ _
 port := rfl
theorem reqB_length (p a : Nat) : ((reqR p a).flatMap encR).length = 16 := by simp [reqR, encR_length, putL_length]
theorem recs3 {w : World} {g A1 n1 c1 A2 n2 c2 A3 n3 c3} {r1 r2 r3 : RecT} (h1 : Bytes w A1 n1 c1 r1.2.2) (h2 : Bytes w A2 n2 c2 r2.2.2) (h3 : Bytes w A3 n3 c3 r3.2.2) (hB : Blk w g 132 #[.bool r1.1, .int .i64 r1.2.1, .slice A1 n1 c1, .bool r2.1, .int .i64 r2.2.1, .slice A2 n2 c2, .bool r3.1, .int .i64 r3.2.1, .slice A3 n3 c3]) : RecL w (some ⟨g, 0, none⟩) 3 3 [r1, r2, r3] := by
 have h := (((ItemsV.nil (sz := 3) (enc := encRec) (dat := datRec) w none).snoc r1 A1 n1 c1 rfl h1 Off.none).snoc r2 A2 n2 c2 rfl h2 Off.none).snoc r3 A3 n3 c3 rfl h3 Off.none; exact RecL.made (rs := [r1, r2, r3]) (vs := [.bool r1.1, .int .i64 r1.2.1, .slice A1 n1 c1, .bool r2.1, .int .i64 r2.2.1, .slice A2 n2 c2, .bool r3.1, .int .i64 r3.2.1, .slice A3 n3 c3]) hB (by simp [maxLen]) h
theorem request_any (A1 A2 : Option Addr) (c1 c2 p a : Nat) (w : World) (h1 : IntsL w A1 1 c1 [p]) (h2 : IntsL w A2 1 c2 [a]) (hp : p <= 65535) (ha : a <= 65535) : Calls Tryz.prog 25 #[.slice A1 1 c1, .slice A2 1 c2] w fun e w' => ∃ A' n' c', e = .returned (.tuple #[.slice A' n' c', .int .i64 0]) ∧ Bytes w' A' n' c' ((reqR p a).flatMap encR) ∧ Below w.heap.size w w' := by
 have hx := below_alloc1 w (.cells #[.slice A1 1 c1, .slice A2 1 c2] 77); have hRV : RowsV 1 (w.alloc (.cells #[.slice A1 1 c1, .slice A2 1 c2] 77)) (some ⟨w.heap.size, 0, none⟩) 2 2 [[.int .i64 p], [.int .i64 a]] := by
  refine RowsV.made (vs := [.slice A1 1 c1, .slice A2 1 c2]) (Blk.new _ _ _) rfl (by simp [maxLen]) (fun i us hi => ?_)
  match i, hi with
  | 0, hi => simp only [List.getElem?_cons_zero, Option.some.injEq] at hi; subst hi; exact ⟨_, _, _, rfl, h1.stays hx, by simp [Value.oneCell']⟩
  | 1, hi => simp only [List.getElem?_cons_succ, List.getElem?_cons_zero, Option.some.injEq] at hi; subst hi; exact ⟨_, _, _, rfl, h2.stays hx, by simp [Value.oneCell']⟩
 have HCT := qq (catI_any _ _ _ _ _ hRV 2 (by simp) (by omega)); have HX := qq hx; have H1 := qq h1; have H2 := qq h2; have hcap1 : c1 <= 9223372036854775807 := by have := h1.2.2.1; unfold maxLen at this; omega
 have hcap2 : c2 <= 9223372036854775807 := by have := h2.2.2.1; unfold maxLen at this; omega
 have hl1 := h1.2.1; have hl2 := h2.2.1; clear hRV hx h1 h2
 go_enter Tryz.func25, Tryz.ntmps25
 go_wp2_with fail
 refine HCT.out.mono ?_; rintro e y1 ⟨AC, cC, rfl, hown, hb⟩; have HI : Hid (IntsL y1 AC 2 cC [p, a]) := own_rd hown; have RW := qt HX hb; have hcapC : cC <= 9223372036854775807 := by have := HI.out.2.2.1; unfold maxLen at this; omega
 have hlC := HI.out.2.1; clear HCT HX hown hb; go_wp2
 go_loop [15] (fun i => ∃ k : Nat, k <= 2 ∧ i = .int .i64 k) (fun i => 2 - (intOf i).toNat)
 case atStart => exact ⟨0, by decide, rfl⟩
 case round =>
  obtain ⟨k, hk, rfl⟩ := hrel
  by_cases hk2 : k < 2
  · have hki : (k : Int) < 2 := by omega
    obtain ⟨b5, o5, rfl, hc5⟩ := HI.out.at_ hk2; obtain ⟨z, hz⟩ : ∃ z, [p, a].getD k 0 = z := ⟨_, rfl⟩; have hz2 : z <= 65535 := by
     rw [<- hz]; rcases (by omega : k = 0 ∨ k = 1) with rfl | rfl
     · exact hp
     · exact ha
    rw [hz] at hc5; clear hz
    go_wp2_with fail
    refine (number_any z (by omega) (by omega) _).mono ?_; rintro e y ⟨rfl, rfl⟩; go_wp2
    go_round
    case rel => exact ⟨k + 1, by omega, by go_num⟩
    case measure => simp [intOf]; omega
  · obtain rfl : k = 2 := by omega
    clear hk2 hk; go_wp2
    go_loop [26] (fun i => ∃ k : Nat, k <= 2 ∧ i = .int .i64 k) (fun i => 2 - (intOf i).toNat)
    case atStart => exact ⟨0, by decide, rfl⟩
    case round =>
     obtain ⟨k, hk, rfl⟩ := hrel; rcases (by omega : k = 0 ∨ k = 1 ∨ k = 2) with rfl | rfl | rfl
     · go_wp2_with (refine wpList_idx (v := .slice A1 1 c1) rfl rfl (by kernel_rfl) ?_)
       go_round
       case rel => exact ⟨1, by decide, by go_num⟩
       case measure => simp [intOf]
     · go_wp2_with (refine wpList_idx (v := .slice A2 1 c2) rfl rfl (by kernel_rfl) ?_)
       go_round
       case rel => exact ⟨2, by decide, by go_num⟩
       case measure => simp [intOf]
     · clear hk
       go_wp2_with fail
       refine (body_any A1 1 c1 [p] _ (H1.out.stays RW.out) (fun k => by cases k <;> simp <;> omega) (by decide)).mono ?_; rintro e y2 ⟨B1, d1, rfl, hown, hb⟩; have HB1 : Hid (Bytes y2 B1 2 d1 (putL p 2)) := by have h := own_rd hown; simp [bodyL] at h; exact h
       have RW := qt RW hb; clear hown hb
       go_wp2_with fail
       refine (body_any A2 1 c2 [a] _ (H2.out.stays RW.out) (fun k => by cases k <;> simp <;> omega) (by decide)).mono ?_; rintro e y3 ⟨B2, d2, rfl, hown, hb⟩; have HB1 := qs HB1 hb; have HB2 : Hid (Bytes y3 B2 2 d2 (putL a 2)) := by have h := own_rd hown; simp [bodyL] at h; exact h
       have RW := qt RW hb; have hx := below_alloc1 y3 (.cells #[.bool true, .int .i64 1, .slice B1 2 d1, .bool true, .int .i64 4, .slice B2 2 d2, .bool true, .int .i64 0, .slice none 0 0] 132); have hRL := recs3 (r1 := (true, 1, putL p 2)) (r2 := (true, 4, putL a 2)) (r3 := (true, 0, [])) (HB1.out.stays hx) (HB2.out.stays hx) (Bytes.nil _ none 0 (Nat.zero_le _)) (Blk.new y3 _ _); have HE := qq (rEncode_any _ _ _ _ _ hRL (fun i hi => (reqR_ok p a).ty i hi) (by decide) (by rw [show ([(true, 1, putL p 2), (true, 4, putL a 2), (true, 0, [])] : List RecT) = reqR p a from rfl, reqB_length]; decide)); have HX := qq hx; clear hown hb hx hRL
       go_wp2_with fail
       refine HE.out.mono ?_; rintro e y4 ⟨A', n', c', rfl, hB, hb⟩; have HB := qq hB; have RW := qq (RW.out.trans ((HX.out.trans (hb.mono HX.out.size)).mono RW.out.size)); clear hB hb HE; go_wp2
       go_returns
       exact ⟨A', n', c', rfl, HB.out, RW.out⟩
theorem offer_any (A : Option Addr) (n c p a : Nat) (w : World) (hv : Bytes w A n c ((reqR p a).flatMap encR)) (hp : p <= 65535) (ha : a <= 65535) : Calls Tryz.prog 78 #[.slice A n c] w fun e w' => ∃ A1 c1 A2 c2, e = .returned (.tuple #[.slice A1 1 c1, .slice A2 1 c2, .bool true]) ∧ IntsL w' A1 1 c1 [p] ∧ IntsL w' A2 1 c2 [a] ∧ Below w.heap.size w w' := by
 have HV := qq hv; have hn : n <= 65535 := by rw [<- hv.len, reqB_length]; decide
 clear hv
 go_enter Tryz.func78, Tryz.ntmps78
 go_wp2_with fail
 refine (read_any A n c (reqR p a) _ HV.out hn (reqR_ok p a)).mono ?_; rintro e y1 ⟨v, rfl, hM, hb⟩; have hM' := hM; obtain ⟨AM, cM, bM, nM, VM, ev, _, _, _⟩ := hM'; have ev : v = .agg #[.slice AM 3 cM, .map (some bM)] := ev; subst ev; have HM := qq hM; have RW := qq hb; clear hM hb
 go_upto_region 2 with (refine wpList_store_part rfl 142 _ _ rfl y1.heap.size 0 142 [] [.slice none 0 0, .map none] [] [.slice AM 3 cM, .map (some bM)] rfl rfl (Blk.new _ _ _) rfl rfl infoMsg (by simp [Value.oneCell']) ?_; intro y2 D G; have G := below_new_store G; rw [List.append_nil, List.nil_append] at D)
 obtain ⟨b_, eb⟩ : ∃ b_, b_ = y1.heap.size := ⟨_, rfl⟩; rw [<- eb] at D ⊢; have BB := qq D; have HM := qs HM G; have RW := qt RW G; clear D G eb; have cm0 := BB.out.cell 0; have cm1 := BB.out.cell 1
 go_wp2_with fail
 refine (has_any _ (reqR p a) 1 _ HM.out (by decide)).mono ?_; rintro e y3 ⟨rfl, hb⟩; have BB := qs BB hb; have HM := qs HM hb; have RW := qt RW hb; clear hb cm0 cm1; have cm0 := BB.out.cell 0; have cm1 := BB.out.cell 1; rw [show decide (0 < (kindL (reqR p a) ((1 : Nat) : Int)).length) = true from rfl]
 go_wp2_with fail
 refine (has_any _ (reqR p a) 4 _ HM.out (by decide)).mono ?_; rintro e y4 ⟨rfl, hb⟩; have BB := qs BB hb; have HM := qs HM hb; have RW := qt RW hb; clear hb cm0 cm1; rw [show decide (0 < (kindL (reqR p a) ((4 : Nat) : Int)).length) = true from rfl]
 go_wp2_with fail
 obtain ⟨y2, ey2⟩ : ∃ y2, y2 = y4 := ⟨_, rfl⟩; subst ey2; refine mono_start (fun _ => True) [pv (.agg #[.slice AM 3 cM, .map (some bM)]), mv (fun v u => ∃ A' c', v = .slice A' 1 c' ∧ IntsL u A' 1 c' [p]), pv (.agg #[.slice AM 3 cM, .map (some bM)]), mv (fun v u => ∃ A' c', v = .slice A' 1 c' ∧ IntsL u A' 1 c' [a])] (by kernel_rfl) (by kernel_rfl) (fun OPS AV AL K w0 hO hA hL hK hb0 hz => ?_); refine step_pg (d := (some 25)) (hO.out 0 _ rfl) rfl rfl (fun wq hw gt => ?_) ?_
 · have hx : Below y2.heap.size y2 wq := hb0.trans (hw.mono hb0.size); exact exec_load_part 142 _ rfl b_ 0 142 [] [.slice AM 3 cM, .map (some bM)] [] _ rfl (BB.out.stays hx) rfl Tryz.underlying142 rfl infoMsg
 try simp only [qp, qn]
 refine step_mc (d := (some 26)) (hO.out 1 _ rfl) rfl rfl (fun wq hw gt => ?_) (fun v_1 x_1 => ?_)
 · have hx : Below y2.heap.size y2 wq := hb0.trans (hw.mono hb0.size); refine ⟨_, _, ?_, (numbersM_one _ _ 1 _ (HM.out.stays hx) (by decide) (by rfl) (by rfl)).mono (fun e q h => ?_)⟩
   · clear gt hO hA hL hK
     go_simp
   obtain ⟨A', c', rfl, h1, h2⟩ := h; rw [show be64 (recD (kindL (reqR p a) ((1 : Nat) : Int)) 0) 2 = p from be64_p2 p (by omega)] at h1; exact ⟨_, rfl, ⟨A', c', rfl, h1⟩, h2⟩
 try simp only [qp, qn]
 refine step_pg (d := (some 27)) (hO.out 2 _ rfl) rfl rfl (fun wq hw gt => ?_) ?_
 · have hx : Below y2.heap.size y2 wq := hb0.trans (hw.mono hb0.size); exact exec_load_part 142 _ rfl b_ 0 142 [] [.slice AM 3 cM, .map (some bM)] [] _ rfl (BB.out.stays hx) rfl Tryz.underlying142 rfl infoMsg
 try simp only [qp, qn]
 refine step_mc (d := (some 28)) (hO.out 3 _ rfl) rfl rfl (fun wq hw gt => ?_) (fun v_3 x_3 => ?_)
 · have hx : Below y2.heap.size y2 wq := hb0.trans (hw.mono hb0.size); refine ⟨_, _, ?_, (numbersM_one _ _ 4 _ (HM.out.stays hx) (by decide) (by rfl) (by rfl)).mono (fun e q h => ?_)⟩
   · clear gt hO hA hL hK
     go_simp
   obtain ⟨A', c', rfl, h1, h2⟩ := h; rw [show be64 (recD (kindL (reqR p a) ((4 : Nat) : Int)) 0) 2 = a from be64_p2 a (by omega)] at h1; exact ⟨_, rfl, ⟨A', c', rfl, h1⟩, h2⟩
 try simp only [qp, qn]
 refine fun wq hw gt => hK.out _ _ ?_
 obtain ⟨⟨A1, c1, rfl, hI1⟩, hb1⟩ := (gt 1 (hL.out 1 (by kernel_rfl))); obtain ⟨⟨A2, c2, rfl, hI2⟩, hb2⟩ := (gt 3 (hL.out 3 (by kernel_rfl))); have hx : Below y2.heap.size y2 wq := hb0.trans (hw.mono hb0.size); clear gt hO hA hL hK; refine take_do (j := 4) (d := some 2) (v := .slice A1 1 c1) (w2 := wq) rfl rfl (by kernel_rfl) rfl (Or.inl (by go_simp; try with_reducible rfl)) trivial ?_; try simp only [qp, qn]
 refine take_do (j := 5) (d := some 3) (v := .slice A2 1 c2) (w2 := wq) rfl rfl (by kernel_rfl) rfl (Or.inl (by go_simp; try with_reducible rfl)) trivial ?_; try simp only [qp, qn]
 refine wpAnyH_done (by kernel_rfl) ?_ _; have RW := qt RW hx; have HI1 := qq (hI1.stays hb1); have HI2 := qq (hI2.stays hb2); clear hI1 hI2 hb1 hb2 hx hw hz hb0
 go_wp2_with fail
 refine (request_any A1 A2 c1 c2 p a _ HI1.out HI2.out hp ha).mono ?_; rintro e y5 ⟨A5, n5, c5, rfl, hB5, hb⟩; have RW := qt RW hb; have HI1 := qs HI1 hb; have HI2 := qs HI2 hb; have HS := qq (octSame_any A5 n5 c5 _ A n c _ _ hB5 (HV.out.stays RW.out)); rw [decide_eq_true rfl] at HS; clear hb hB5
 go_wp2_with fail
 refine HS.out.mono ?_; rintro e y6 ⟨rfl, rfl⟩; go_wp2
 go_returns
 exact ⟨A1, c1, A2, c2, rfl, HI1.out, HI2.out, RW.out⟩
end Go.Proofs.YtiemnacoebkalaaGreat
